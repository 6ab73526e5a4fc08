/- Parts, one behind the other: Df2 Df3 OpP OpPc Mg0 Df4 Df5 Df6 Df7 Df8 Mg1 Mg2 De4 Cb0 Dg1 Dg2 Dg3 Dg4 Dh1 Dh2 Di1 Di2 OwP Mv0. -/
import Derived.Test.YtalfmcajghmkpaaZ01
import Derived.Great.BuildSlice
import Derived.DataElems
import Derived.IntWalk
import Derived.Shelf.SlSortCmp.Insertion
import Derived.Maps.OwnSet
import Derived.WideKeyArgs
import Derived.DeepKeys4
import Derived.Maps.Range
import Derived.Laws.ShiftsVarLaws
import Derived.Laws.BitsAllLaws
import Derived.Lib.AppendStr
import Derived.Lib.AppendZerosOnto
import Derived.Shelf.SlIter.Collect
import Derived.RangeFuncKeeps
import Derived.RangeFuncBox
/- Contracts: which piece stands ahead. -/
namespace Go.Proofs.Ytalfmcajghmkpaa
set_option maxRecDepth 100000
open Go.RowKit
set_option linter.unusedVariables false
set_option linter.unusedSimpArgs false
theorem heap2P (w : World) (a b : Obj) : ((((w.alloc a).alloc b))).heap[w.heap.size + 1]? = some b := by
  have h := heap_alloc_new (w.alloc a) b
  have e : (w.alloc a).heap.size = w.heap.size + 1 := by simp
  rw [e] at h
  exact h
def orL : List Int → Int
  | [] => 0
  | x :: l => if x = 0 then orL l else x
def ints (l : List Int) : List Value := l.map fun x => .int .i64 x
def IntsAt (w : World) (g : Nat) (l : List Int) : Prop := Blk w g 3 (ints l).toArray
theorem IntsAt.at_ {w : World} {g : Nat} {l : List Int} (h : IntsAt w g l) (i : Nat) (hi : i < l.length) : w.cell? ⟨g, i, none⟩ = some (.int .i64 (l.getD i 0)) := by
  refine (Blk.cell h i).trans ?_
  simp [ints, List.getD_eq_getElem?_getD, hi]
theorem or_c (g c : Nat) (l : List Int) (w : World) (h : IntsAt w g l) (hl : l.length ≤ 100) :
    Calls Try.prog 18 #[.slice (some ⟨g, 0, none⟩) l.length c] w fun e w' => e = .returned (.int .i64 (orL l)) ∧ w = w' := by
  have HH := Lib.hid h
  clear h
  go_enter Try.func18, Try.ntmps18
  go_wp2
  go_loop [8] (fun i => ∃ k : Nat, k ≤ l.length ∧ i = .int .i64 k ∧ orL l = orL (l.drop k)) (fun i => l.length - (intOf i).toNat)
  case atStart => exact ⟨0, Nat.zero_le _, rfl, rfl⟩
  case round =>
    obtain ⟨k, hk, rfl, hd⟩ := hrel
    have HD := Lib.hid hd
    clear hd
    by_cases hlt : k < l.length
    · have e0 := HH.out.at_ k hlt
      have HDK := Lib.hid (show l.drop k = l.getD k 0 :: l.drop (k + 1) by rw [List.drop_eq_getElem_cons hlt]; simp [List.getD_eq_getElem?_getD, hlt])
      generalize l.getD k 0 = x at *
      have p1 : (k : Int) < (l.length : Int) := by omega
      by_cases hx : x = 0
      · subst hx
        go_wp2
        go_round
        case rel => exact ⟨k + 1, by omega, by go_num, by rw [HD.out, HDK.out]; rfl⟩
        case measure => simp [intOf]; omega
      · have t0 : (x != 0) = true := by rw [bne_iff_ne]; exact hx
        have HX := Lib.hid hx
        clear hx
        go_wp2
        go_ret
        exact ⟨by rw [HD.out, HDK.out, orL, if_neg HX.out]; rfl, rfl⟩
    · obtain rfl : k = l.length := by omega
      go_wp2
      go_ret
      exact ⟨by rw [HD.out, List.drop_length]; rfl, rfl⟩
theorem intInfo : (Try.prog.info? 3).map (fun i => (i.zero, i.size, i.bytes)) = some (some (.int .i64 0), 1, 8) := by kernel_rfl
theorem run_ints (w : World) (l : List Int) {o : Oper} {ρ : Operand → Value} (xs : Array (Nat × Operand)) (ho : o.op = .buildSlice 56 l.length xs)
    (hx : (xs.map fun (p : Nat × Operand) => (p.1, ρ p.2)).toList = (((ints l).zipIdx 0).map fun x => (x.2, x.1))) (hlen : l.length ≤ 1000) (hpos : 0 < l.length) :
    (execOp ρ o).run Try.prog w = .ok (.value (.slice (some ⟨w.heap.size, 0, none⟩) l.length l.length)) (w.alloc (.cells (ints l).toArray 3)) := by
  obtain ⟨i0, hi, hz0, hz1, hz2⟩ := info_parts intInfo
  have h1 := run_buildSlice (P := Try.prog) w 56 3 l.length (xs.map fun (p : Nat × Operand) => (p.1, ρ p.2)) (ints l).toArray i0 _ Try.underlying56 hi hz0 (by rw [hz1]; omega) (by rw [hz1]; omega) (by
    rw [hz1]
    refine (congrArg _ hx).trans ?_
    exact (Great.fill_flat (ints l) _ (fun v hv => by
      obtain ⟨p, _, rfl⟩ := List.mem_map.1 hv
      rfl) (by simp [ints])))
  unfold execOp
  simp only [ho, Sem.run_bind, h1, Result.andThen_ok]
  rfl
def IntsV (l : List Int) (u : Value) (W : World) : Prop := ∃ g, u = .slice (some ⟨g, 0, none⟩) l.length l.length ∧ IntsAt W g l
theorem IntsV.next {l : List Int} {u : Value} {W W' : World} (h : IntsV l u W) (hb : Below W.heap.size W W') : IntsV l u W' := by
  obtain ⟨g, e, h⟩ := h
  exact ⟨g, e, Blk.below h hb (Blk.lt h)⟩
theorem IntsV.or_ {l : List Int} {u : Value} {W : World} (h : IntsV l u W) (hl : l.length ≤ 100) : Calls Try.prog 18 #[u] W fun e w' => e = .returned (.int .i64 (orL l)) ∧ W = w' := by
  obtain ⟨g, rfl, h⟩ := h
  exact or_c g _ l W h hl
def idV (n d : Nat) : Array Value := #[.int .u64 (n : Int), .int .u16 (d : Int)]
def cmpD (n d n2 d2 : Nat) : Int := orL [cmpI n n2, cmpI d d2]
set_option maxRecDepth 100000 in
set_option maxHeartbeats 4000000 in
theorem ids_c (n d n2 d2 : Nat) (w : World) : Calls Try.prog 16 #[.agg (idV n d), .agg (idV n2 d2)] w fun e w' => e = .returned (.int .i64 (cmpD n d n2 d2)) ∧ Below w.heap.size w w' := by
  go_enter Try.func16, Try.ntmps16
  go_upto_region 1 with (first
    | (refine Go.Great.wpList_boxTo rfl 25 (.tmp 0) rfl (some 2) rfl w.heap.size rfl (idV n d) rfl ?_)
    | (refine Go.Great.wpList_boxTo rfl 25 (.tmp 1) rfl (some 3) rfl (w.heap.size + 1) (by simp) (idV n2 d2) rfl ?_))
  obtain ⟨Z, hZ⟩ : ∃ Z, Z = (w.alloc (Obj.cells (idV n d) 25)).alloc (Obj.cells (idV n2 d2) 25) := ⟨_, rfl⟩
  have H1 := show Blk Z w.heap.size 25 (idV n d) by rw [hZ]; exact (Blk.new w _ _).alloc _
  have H2 := show Blk Z (w.heap.size + 1) 25 (idV n2 d2) by rw [hZ]; exact heap2P w _ _
  have HB := Lib.hid (show Below w.heap.size w Z by rw [hZ]; exact ((Below.refl _ _).alloc (Nat.le_refl _) _).alloc (by simp) _)
  rw [← hZ]
  clear hZ
  have c0 := cell_ext (show Z.cell? ⟨w.heap.size, 0, none⟩ = some (.int .u64 (n : Int)) from (H1.cell 0).trans rfl)
  have c1 := cell_ext (show Z.cell? ⟨w.heap.size, 1, none⟩ = some (.int .u16 (d : Int)) from (H1.cell 1).trans rfl)
  have c2 := cell_ext (show Z.cell? ⟨w.heap.size + 1, 0, none⟩ = some (.int .u64 (n2 : Int)) from (H2.cell 0).trans rfl)
  have c3 := cell_ext (show Z.cell? ⟨w.heap.size + 1, 1, none⟩ = some (.int .u16 (d2 : Int)) from (H2.cell 1).trans rfl)
  clear H1 H2
  refine wp_region_loud Z [15] (fun _ u W => IntsV [cmpI n n2, cmpI d d2] u W) (by kernel_rfl) (by kernel_rfl) (by kernel_rfl) (by kernel_rfl) (fun _ _ _ _ h hb => h.next hb) (Below.refl _ _).drew ?_
  repeat (first
    | (refine wpLoud_call 9 rfl [] (.int .i64 (cmpI n n2)) 22 (fun g => #[.int .u64 (n : Int), .int .u64 (n2 : Int)]) rfl (fun _ _ h => by cases h) rfl (fun g w => by kernel_rfl) (fun g z hg => by
        refine (cmp_u64 _ _ z.wd).mono ?_
        rintro e w' ⟨rfl, rfl⟩
        exact ⟨_, rfl, Below.refl _ _, rfl⟩) _ (by simp only [Act.put, List.setIfInBounds_toArray, List.set_cons_succ, List.set_cons_zero]; rfl) ?_)
    | (refine wpLoud_call 14 rfl [] (.int .i64 (cmpI d d2)) 23 (fun g => #[.int .u16 (d : Int), .int .u16 (d2 : Int)]) rfl (fun _ _ h => by cases h) rfl (fun g w => by kernel_rfl) (fun g z hg => by
        refine (cmp_u16 _ _ z.wd).mono ?_
        rintro e w' ⟨rfl, rfl⟩
        exact ⟨_, rfl, Below.refl _ _, rfl⟩) _ (by simp only [Act.put, List.setIfInBounds_toArray, List.set_cons_succ, List.set_cons_zero]; rfl) ?_)
    | (refine wpLoud_make rfl (fun _ _ h => by cases h) rfl 15 rfl rfl (fun y => ⟨_, _, run_ints y.wd [cmpI n n2, cmpI d d2] #[(0, .tmp 9), (1, .tmp 14)] rfl (by kernel_rfl) (by simp) (by simp), (Below.refl _ _).alloc (Nat.le_refl _) _, ⟨_, rfl, Blk.new _ _ _⟩⟩) _ (by simp only [Act.put, List.setIfInBounds_toArray, List.set_cons_succ, List.set_cons_zero]; rfl) ?_)
    | (refine wpLoud_call 16 rfl [15] (.int .i64 (cmpD n d n2 d2)) 18 (fun g => #[g 15]) rfl (fun _ _ h => by cases h) rfl (fun g w => by kernel_rfl) (fun g z hg => by
        refine ((hg 15 (by simp)).or_ (by simp)).mono ?_
        rintro e w' ⟨rfl, rfl⟩
        exact ⟨_, rfl, Below.refl _ _, rfl⟩) _ (by simp only [Act.put, List.setIfInBounds_toArray, List.set_cons_succ, List.set_cons_zero]; rfl) ?_)
    | (refine wpLoud_plain rfl rfl rfl ?_; intro K hK; go_big_quiet_op; go_big_quiet_on))
  refine wpLoud_end [] (by rfl) ?_
  intro g z hg
  have HBZ := Lib.hid (HB.out.trans (z.bel.mono HB.out.size))
  generalize z.wd = Y2 at *
  simp only [fill, Act.put, List.setIfInBounds_toArray, List.set_cons_succ, List.set_cons_zero]
  go_wp2_with fail
  go_ret
  exact ⟨rfl, HBZ.out⟩
def pcL (p : Pc) : List Value := [.string p.s, .int .i64 p.t, .int .i64 p.v, .int .u64 (p.n : Int), .int .u16 (p.d : Int)]
def pcV (p : Pc) : Array Value := (pcL p).toArray
def cmpP (a b : Pc) : Int := orL [cmpS a.s b.s, cmpI a.t b.t, cmpD a.n a.d b.n b.d]
def lessP (a b : Pc) : Bool := decide (cmpP a b < 0)
theorem idInfo : (Try.prog.info? 25).map (·.size) = some 2 := by kernel_rfl
theorem rangeAt_id {w : World} {g : Nat} {p : Pc} (h : Blk w g 27 (pcV p)) : w.rangeAt g 3 (idV p.n p.d).toList := fun i u hu => by
  refine (h.cell (3 + i)).trans ?_
  rw [← hu]
  match i with
  | 0 => rfl
  | 1 => rfl
  | i + 2 =>
    rw [show 3 + (i + 2) = i + 5 by omega]
    rfl
set_option maxRecDepth 100000 in
set_option maxHeartbeats 4000000 in
theorem compare_c (p q : Pc) (w : World) : Calls Try.prog 17 #[.agg (pcV p), .agg (pcV q)] w fun e w' => e = .returned (.int .i64 (cmpP p q)) ∧ Below w.heap.size w w' := by
  go_enter Try.func17, Try.ntmps17
  go_upto_region 1 with (first
    | (refine Go.Great.wpList_boxTo rfl 27 (.tmp 0) rfl (some 2) rfl w.heap.size rfl (pcV p) rfl ?_)
    | (refine Go.Great.wpList_boxTo rfl 27 (.tmp 1) rfl (some 3) rfl (w.heap.size + 1) (by simp) (pcV q) rfl ?_))
  obtain ⟨Z, hZ⟩ : ∃ Z, Z = (w.alloc (Obj.cells (pcV p) 27)).alloc (Obj.cells (pcV q) 27) := ⟨_, rfl⟩
  have h1 := show Blk Z w.heap.size 27 (pcV p) by rw [hZ]; exact (Blk.new w _ _).alloc _
  have h2 := show Blk Z (w.heap.size + 1) 27 (pcV q) by rw [hZ]; exact heap2P w _ _
  have HB := Lib.hid (show Below w.heap.size w Z by rw [hZ]; exact ((Below.refl _ _).alloc (Nat.le_refl _) _).alloc (by simp) _)
  rw [← hZ]
  clear hZ
  have c0 := cell_ext (show Z.cell? ⟨w.heap.size, 0, none⟩ = some (.string p.s) from (h1.cell 0).trans rfl)
  have c1 := cell_ext (show Z.cell? ⟨w.heap.size, 1, none⟩ = some (.int .i64 p.t) from (h1.cell 1).trans rfl)
  have c2 := cell_ext (show Z.cell? ⟨w.heap.size + 1, 0, none⟩ = some (.string q.s) from (h2.cell 0).trans rfl)
  have c3 := cell_ext (show Z.cell? ⟨w.heap.size + 1, 1, none⟩ = some (.int .i64 q.t) from (h2.cell 1).trans rfl)
  have H1 := Lib.hid h1
  have H2 := Lib.hid h2
  have HII := Lib.hid idInfo
  clear h1 h2
  refine wp_region_loud Z [20] (fun _ u W => IntsV [cmpS p.s q.s, cmpI p.t q.t, cmpD p.n p.d q.n q.d] u W) (by kernel_rfl) (by kernel_rfl) (by kernel_rfl) (by kernel_rfl) (fun _ _ _ _ h hb => h.next hb) (Below.refl _ _).drew ?_
  repeat (first
    | (refine wpLoud_loadB rfl rfl 25 (.tmp 15) rfl w.heap.size 3 rfl (idV p.n p.d) _ (fun z => rangeAt_id (H1.out.below z.bel H1.out.lt)) Try.underlying25 rfl HII.out _ (by simp only [Act.put, List.setIfInBounds_toArray, List.set_cons_succ, List.set_cons_zero]; rfl) ?_)
    | (refine wpLoud_loadB rfl rfl 25 (.tmp 17) rfl (w.heap.size + 1) 3 rfl (idV q.n q.d) _ (fun z => rangeAt_id (H2.out.below z.bel H2.out.lt)) Try.underlying25 rfl HII.out _ (by simp only [Act.put, List.setIfInBounds_toArray, List.set_cons_succ, List.set_cons_zero]; rfl) ?_)
    | (refine wpLoud_call 9 rfl [] (.int .i64 (cmpS p.s q.s)) 24 (fun g => #[.string p.s, .string q.s]) rfl (fun _ _ h => by cases h) rfl (fun g w => by kernel_rfl) (fun g z hg => by
        refine (cmp_s _ _ z.wd).mono ?_
        rintro e w' ⟨rfl, rfl⟩
        exact ⟨_, rfl, Below.refl _ _, rfl⟩) _ (by simp only [Act.put, List.setIfInBounds_toArray, List.set_cons_succ, List.set_cons_zero]; rfl) ?_)
    | (refine wpLoud_call 14 rfl [] (.int .i64 (cmpI p.t q.t)) 19 (fun g => #[.int .i64 p.t, .int .i64 q.t]) rfl (fun _ _ h => by cases h) rfl (fun g w => by kernel_rfl) (fun g z hg => by
        refine (cmp_i64 _ _ z.wd).mono ?_
        rintro e w' ⟨rfl, rfl⟩
        exact ⟨_, rfl, Below.refl _ _, rfl⟩) _ (by simp only [Act.put, List.setIfInBounds_toArray, List.set_cons_succ, List.set_cons_zero]; rfl) ?_)
    | (refine wpLoud_call 19 rfl [] (.int .i64 (cmpD p.n p.d q.n q.d)) 16 (fun g => #[.agg (idV p.n p.d), .agg (idV q.n q.d)]) rfl (fun _ _ h => by cases h) rfl (fun g w => by kernel_rfl) (fun g z hg => by
        refine (ids_c _ _ _ _ z.wd).mono ?_
        rintro e w' ⟨rfl, hb⟩
        exact ⟨_, rfl, hb, rfl⟩) _ (by simp only [Act.put, List.setIfInBounds_toArray, List.set_cons_succ, List.set_cons_zero]; rfl) ?_)
    | (refine wpLoud_make rfl (fun _ _ h => by cases h) rfl 20 rfl rfl (fun y => ⟨_, _, run_ints y.wd [cmpS p.s q.s, cmpI p.t q.t, cmpD p.n p.d q.n q.d] #[(0, .tmp 9), (1, .tmp 14), (2, .tmp 19)] rfl (by kernel_rfl) (by simp) (by simp), (Below.refl _ _).alloc (Nat.le_refl _) _, ⟨_, rfl, Blk.new _ _ _⟩⟩) _ (by simp only [Act.put, List.setIfInBounds_toArray, List.set_cons_succ, List.set_cons_zero]; rfl) ?_)
    | (refine wpLoud_call 21 rfl [20] (.int .i64 (cmpP p q)) 18 (fun g => #[g 20]) rfl (fun _ _ h => by cases h) rfl (fun g w => by kernel_rfl) (fun g z hg => by
        refine ((hg 20 (by simp)).or_ (by simp)).mono ?_
        rintro e w' ⟨rfl, rfl⟩
        exact ⟨_, rfl, Below.refl _ _, rfl⟩) _ (by simp only [Act.put, List.setIfInBounds_toArray, List.set_cons_succ, List.set_cons_zero]; rfl) ?_)
    | (refine wpLoud_plain rfl rfl rfl ?_; intro K hK; go_big_quiet_op; go_big_quiet_on))
  refine wpLoud_end [] (by rfl) ?_
  intro g z hg
  have HBZ := Lib.hid (HB.out.trans (z.bel.mono HB.out.size))
  generalize z.wd = Y2 at *
  simp only [fill, Act.put, List.setIfInBounds_toArray, List.set_cons_succ, List.set_cons_zero]
  go_wp2_with fail
  go_ret
  exact ⟨rfl, HBZ.out⟩
theorem pcInfo (p : Pc) : (Try.prog.info? 27).map (·.size) = some (pcV p).size := by
  show _ = some 5
  kernel_rfl
set_option maxRecDepth 100000 in
set_option maxHeartbeats 4000000 in
theorem less_c (p q : Pc) (w : World) : Calls Try.prog 10 #[.agg (pcV p), .agg (pcV q)] w fun e w' => e = .returned (.bool (lessP p q)) ∧ Below w.heap.size w w' := by
  have HLP := Lib.hid (show lessP p q = decide (cmpP p q < 0) from rfl)
  have HCC := Lib.hid (fun W => compare_c p q W)
  have HI1 := Lib.hid (pcInfo p)
  have HI2 := Lib.hid (pcInfo q)
  generalize cmpP p q = r at *
  generalize lessP p q = b at *
  go_enter Try.func10, Try.ntmps10
  go_upto_region 1 with (first
    | (refine Go.Great.wpList_boxTo rfl 27 (.tmp 0) rfl (some 2) rfl w.heap.size rfl (pcV p) rfl ?_)
    | (refine Go.Great.wpList_boxTo rfl 27 (.tmp 1) rfl (some 3) rfl (w.heap.size + 1) (by simp) (pcV q) rfl ?_))
  obtain ⟨Z, hZ⟩ : ∃ Z, Z = (w.alloc (Obj.cells (pcV p) 27)).alloc (Obj.cells (pcV q) 27) := ⟨_, rfl⟩
  have H1 := Lib.hid (show Blk Z w.heap.size 27 (pcV p) by rw [hZ]; exact (Blk.new w _ _).alloc _)
  have H2 := Lib.hid (show Blk Z (w.heap.size + 1) 27 (pcV q) by rw [hZ]; exact heap2P w _ _)
  have HB := Lib.hid (show Below w.heap.size w Z by rw [hZ]; exact ((Below.refl _ _).alloc (Nat.le_refl _) _).alloc (by simp) _)
  rw [← hZ]
  clear hZ
  go_wp2_with (first
    | (refine wpList_load_row rfl 27 (.tmp 2) rfl w.heap.size rfl 27 (pcV p) (0, 0) _ H1.out Try.underlying27 rfl HI1.out ?_)
    | (refine wpList_load_row rfl 27 (.tmp 3) rfl (w.heap.size + 1) rfl 27 (pcV q) (0, 0) _ H2.out Try.underlying27 rfl HI2.out ?_)
    | (go_at_call 17; (refine (HCC.out Z).mono ?_); rintro e W1 ⟨rfl, hb⟩; have HB1 := Lib.hid (HB.out.trans (hb.mono HB.out.size)); clear hb))
  go_ret
  exact ⟨by rw [HLP.out]; rfl, HB1.out⟩
end Go.Proofs.Ytalfmcajghmkpaa
/- Rows of pieces that are read; contracts: whether a piece may be, whether there are too many. -/
namespace Go.Proofs.Ytalfmcajghmkpaa
set_option maxRecDepth 100000
open Go.RowKit
set_option linter.unusedVariables false
set_option linter.unusedSimpArgs false
/-- cells from an address on -/
def AtA (w : World) (a : Addr) (cs : List Value) : Prop := ∀ j v, cs[j]? = some v → w.cell? (a.add j) = some v
theorem AtA.drop {w : World} {a : Addr} {cs : List Value} (h : AtA w a cs) (k n : Nat) : AtA w (a.add k) ((cs.drop k).take n) := fun j v hv => by
  rw [Addr.add_add]
  have hj : j < n := by
    rcases Nat.lt_or_ge j n with h1 | h1
    · exact h1
    · rw [List.getElem?_eq_none (by rw [List.length_take]; omega)] at hv; cases hv
  rw [List.getElem?_take_of_lt hj, List.getElem?_drop] at hv
  exact h (k + j) v hv
theorem AtA.below {w w' : World} {a : Addr} {cs : List Value} {B : Nat} (h : AtA w a cs) (hb : Below B w w') (ha : a.block < B) : AtA w' a cs := fun j v hv =>
  (hb.cell (by rw [add_block]; exact ha)).trans (h j v hv)
section
variable {P : Program}
theorem run_loadVar_at (w : World) (a : Addr) (ty : TypeId) (cs : List Value) (d : TypeDesc) (hc : AtA w a cs)
    (hu : P.underlying ty = some d) (hd : d.isRow = true) (hi : (P.info? ty).map (·.size) = some cs.length) :
    (loadVar ty a).run P w = .ok (.agg cs.toArray) w := by
  have hl : (loadCells a cs.length).run P w = .ok cs.toArray w := run_loadCells_list (P := P) w a cs hc
  cases hq : P.info? ty with
  | none => simp [hq] at hi
  | some i =>
    have hs : i.size = cs.length := by simpa [hq] using hi
    have hagg : (isAgg ty).run P w = .ok true w := by
      unfold isAgg
      rw [Sem.run_bind, run_underlying hu w]
      cases d <;> simp_all
    simp [loadVar, Sem.run_bind, hagg, sizeOf, typeInfo, hq, hs, hl]
end
section
variable {P : Program}
theorem wpList_loadA {ops : Array Oper} {rest : List Oper} {op : Oper} {a : Act} {w : World} {Q : Exit → Act → World → Prop} (hw : Region.wanted op (yielded ops a.tmps) = true) (ty : TypeId) (x : Operand) (ho : op.op = .load ty x)
    (b : Addr) (hx : a.eval x = .pointer (some b)) (l : List Value) (d : TypeDesc) (hc : AtA w b l)
    (hu : P.underlying ty = some d) (hd : d.isRow = true) (hi : (P.info? ty).map (·.size) = some l.length)
    (h : wpList P ops Q rest (a.put op.dst (.agg l.toArray)) w) : wpList P ops Q (op :: rest) a w :=
  wpList_valG hw _ (by
    unfold execOp
    simp only [ho, hx, Instr.loadAt, Instr.sureAddr, Sem.run_bind, Sem.run_pure, Result.andThen_ok, run_loadVar_at w b ty l d hc hu hd hi]) h
end
def pcs (l : List Pc) : List Value := (l.map pcL).flatten
theorem pcs_nil : pcs [] = [] := rfl
theorem pcs_cons (p : Pc) (l : List Pc) : pcs (p :: l) = pcL p ++ pcs l := by simp [pcs]
theorem pcs_app (l m : List Pc) : pcs (l ++ m) = pcs l ++ pcs m := by simp [pcs]
theorem pcs_len (l : List Pc) : (pcs l).length = l.length * 5 := by
  induction l with
  | nil => rfl
  | cons p l ih => rw [pcs_cons, List.length_append, ih]; simp [pcL]; omega
theorem pcs_drop (l : List Pc) (n : Nat) : pcs (l.drop n) = (pcs l).drop (n * 5) := by
  induction l generalizing n with
  | nil => simp [pcs_nil]
  | cons p l ih =>
    cases n with
    | zero => simp
    | succ n =>
      rw [List.drop_succ_cons, ih, pcs_cons, show (n + 1) * 5 = (pcL p).length + n * 5 by simp [pcL]; omega, List.drop_length_add_append]
theorem pcs_take (l : List Pc) (n : Nat) : pcs (l.take n) = (pcs l).take (n * 5) := by
  induction l generalizing n with
  | nil => simp [pcs_nil]
  | cons p l ih =>
    cases n with
    | zero => simp [pcs_nil]
    | succ n =>
      rw [List.take_succ_cons, pcs_cons, pcs_cons, ih, show (n + 1) * 5 = (pcL p).length + n * 5 by simp [pcL]; omega, List.take_length_add_append]
theorem pcs_one (l : List Pc) (i : Nat) (h : i < l.length) : ((pcs l).drop (i * 5)).take 5 = pcL (l.getD i pc0) := by
  rw [← pcs_drop, List.drop_eq_getElem_cons h, pcs_cons]
  simp [pcL, List.getD_eq_getElem?_getD, h]
/-- pieces that lie in memory -/
def RdP (w : World) (B : Nat) (A : Option Addr) (l : List Pc) : Prop := Rd w B A (pcs l)
theorem RdP.open_ {w : World} {B : Nat} {A : Option Addr} {l : List Pc} (h : RdP w B A l) (hn : 0 < l.length) : ∃ ad, A = some ad ∧ ad.block < B ∧ AtA w ad (pcs l) := by
  obtain ⟨ad, rfl, hb, hc⟩ := (show Rd w B A (pcs l) from h) (by intro h0; have := congrArg List.length h0; rw [pcs_len] at this; simp at this; omega)
  exact ⟨ad, rfl, hb, hc⟩
theorem AtA.piece {w : World} {ad : Addr} {l : List Pc} (h : AtA w ad (pcs l)) (i : Nat) (hi : i < l.length) : AtA w (ad.add (i * 5)) (pcL (l.getD i pc0)) := by
  rw [← pcs_one l i hi]; exact h.drop (i * 5) 5
theorem AtA.ser {w : World} {a : Addr} {p : Pc} (h : AtA w a (pcL p)) : w.cell? a = some (.string p.s) := by
  have := h 0 _ rfl
  rwa [show a.add 0 = a by simp [Addr.add]] at this
theorem pcLn (p : Pc) : (Try.prog.info? 27).map (·.size) = some (pcL p).length := by
  show _ = some 5
  kernel_rfl
def greatB (l : List Pc) (m : Nat) : Bool := decide (m < l.length) || (l.take m).any fun p => decide (400 < p.s.size)
theorem greatB_no {l : List Pc} {m : Nat} (h : greatB l m = false) : l.length ≤ m ∧ ∀ p ∈ l, p.s.size ≤ 400 := by
  unfold greatB at h
  rw [Bool.or_eq_false_iff, decide_eq_false_iff_not, List.any_eq_false] at h
  refine ⟨by omega, fun p hp => ?_⟩
  have := h.2 p (by rw [List.take_of_length_le (by omega)]; exact hp)
  simpa using this
set_option maxRecDepth 100000 in
set_option maxHeartbeats 1000000 in
theorem great_c (B : Nat) (A : Option Addr) (c : Nat) (l : List Pc) (m : Nat) (w : World) (hr : RdP w B A l) (h1 : l.length ≤ 9223372036854775807) (hm : m ≤ 1000000) (hs : ∀ p ∈ l, p.s.size ≤ 9223372036854775807) :
    Calls Try.prog 12 #[.slice A l.length c, .int .i64 m] w fun e w' => e = .returned (.bool (greatB l m)) ∧ w = w' := by
  have HR := Lib.hid hr
  clear hr
  go_enter Try.func12, Try.ntmps12
  go_wp2
  go_loop [5] (fun i => ∃ k : Nat, k ≤ l.length ∧ k ≤ m ∧ i = .int .i64 k ∧ ((l.take k).any fun p => decide (400 < p.s.size)) = false) (fun i => l.length - (intOf i).toNat)
  case atStart => exact ⟨0, Nat.zero_le _, Nat.zero_le _, rfl, by simp⟩
  case round =>
    obtain ⟨k, hk, hkm, rfl, hd⟩ := hrel
    have HD := Lib.hid hd
    clear hd
    by_cases hlt : k < l.length ∧ k < m
    · obtain ⟨hlt, hltm⟩ := hlt
      obtain ⟨ad, rfl, _, hat⟩ := HR.out.open_ (by omega)
      have e0 := (hat.piece k hlt).ser
      have HS := Lib.hid (show l.take (k + 1) = l.take k ++ [l.getD k pc0] by rw [List.take_succ_eq_append_getElem hlt]; simp [List.getD_eq_getElem?_getD, hlt])
      have hz := hs (l.getD k pc0) (by simp [List.getD_eq_getElem?_getD, hlt])
      have HMEM := Lib.hid (show l.getD k pc0 ∈ l.take m by
        rw [List.mem_iff_getElem]
        exact ⟨k, by rw [List.length_take]; omega, by simp [List.getD_eq_getElem?_getD, hlt]⟩)
      clear hat
      generalize l.getD k pc0 = p at *
      have p1 : (k : Int) < (l.length : Int) := by omega
      have p2 : (k : Int) < (m : Int) := by omega
      by_cases hg : 400 < p.s.size
      · have HF := Lib.hid (show greatB l m = true by
          unfold greatB
          rw [Bool.or_eq_true, List.any_eq_true]
          exact .inr ⟨p, HMEM.out, decide_eq_true hg⟩)
        clear HMEM
        go_wp2
        go_ret
        exact ⟨by rw [HF.out]; rfl, rfl⟩
      · have HG := Lib.hid hg
        go_wp2
        go_round
        case rel => exact ⟨k + 1, by omega, by omega, by go_num, by rw [HS.out, List.any_append, HD.out, List.any_cons, decide_eq_false HG.out]; rfl⟩
        case measure => simp [intOf]; omega
    · have HF := Lib.hid (show greatB l m = decide (m < l.length) by
        unfold greatB
        by_cases hlm : m < l.length
        · rw [decide_eq_true hlm]; rfl
        · rw [decide_eq_false hlm, Bool.false_or]
          have e : l.take m = l.take k := by rw [List.take_of_length_le (by omega), List.take_of_length_le (by omega)]
          rw [e]; exact HD.out)
      by_cases hkl : k < l.length
      · have hk2 : k = m := by omega
        subst hk2
        have p1 : (k : Int) < (l.length : Int) := by omega
        have HT := Lib.hid (decide_eq_true (show k < l.length from hkl))
        clear hlt
        go_wp2
        go_ret
        exact ⟨by rw [HF.out]; first | rfl | (rw [HT.out]; rfl), rfl⟩
      · have hk2 : k = l.length := by omega
        subst hk2
        have HT := Lib.hid (decide_eq_false (show ¬ m < l.length by omega))
        clear hlt hkl
        go_wp2
        go_ret
        exact ⟨by rw [HF.out]; first | rfl | (rw [HT.out]; rfl), rfl⟩
end Go.Proofs.Ytalfmcajghmkpaa
/- Pieces, int64s that came in, opened. -/
namespace Go.Proofs.Ytalfmcajghmkpaa
set_option maxRecDepth 100000
open Go.ChangeShapes Go.WideShapes Go.ChangeAt Go.RowKit
set_option linter.unusedVariables false
theorem cut_eqP {cs : List Value} {n : Nat} (a : Nat) (xs : List Value) (hx : xs.length = n) (h : (cs.drop a).take n = xs) : cs.drop a = xs ++ cs.drop (a + n) := by
  rw [← h, ← List.drop_drop, List.take_append_drop]
theorem mark_of {H : Type} {enc : TypeId × Value → H} {W : World} {fuel : Nat} {cs : List Value} {y : DataW H × List MemPlace} (hf : DataW.trod enc Try.prog W 0 (fun _ => true) true fuel 25 cs = some y) :
    ∃ n d : Nat, n < 18446744073709551616 ∧ d < 65536 ∧ cs = [.int .u64 (n : Int), .int .u16 (d : Int)] := by
  obtain ⟨f0, f1, hs, ⟨o0, o1⟩, k0, k1⟩ : ∃ f0 f1 : Field, Try.prog.underlying 25 = some (.struct #[f0, f1]) ∧ (f0.offset = 0 ∧ f1.offset = 1) ∧ f0.type = 22 ∧ f1.type = 23 := ⟨_, _, Try.underlying25, ⟨rfl, rfl⟩, rfl, rfl⟩
  obtain ⟨xs, n, _, hx, hlc, hlen, hg⟩ := DataW.trod_struct hs hf
  have hlen' : xs.length = 2 := hlen
  have hC : Try.prog.cellsOf 25 = 2 := by kernel_rfl
  rw [hC] at hlc
  have h64 : Try.prog.cellsOf 22 = 1 := by kernel_rfl
  have h16 : Try.prog.cellsOf 23 = 1 := by kernel_rfl
  have g0 := hg 0 f0 rfl
  rw [k0, o0, h64, List.getElem?_eq_getElem (by omega)] at g0
  have g1 := hg 1 f1 rfl
  rw [k1, o1, h16, List.getElem?_eq_getElem (by omega)] at g1
  obtain ⟨z0, e0, _, w0⟩ := DataW.trod_int Try.underlying22 g0
  have b0 := bounds_u64 w0
  obtain ⟨n0, rfl⟩ := Int.eq_ofNat_of_zero_le b0.1
  obtain ⟨z1, e1, _, w1⟩ := DataW.trod_int Try.underlying23 g1
  have b1 := bounds_u16 w1
  obtain ⟨n1, rfl⟩ := Int.eq_ofNat_of_zero_le b1.1
  refine ⟨n0, n1, by omega, by omega, ?_⟩
  have c0 := cut_eqP (n := 1) 0 [_] rfl e0
  have c1 := cut_eqP (n := 1) 1 [_] rfl e1
  rw [List.drop_zero] at c0
  rw [c0, show 0 + 1 = 1 from rfl, c1, List.drop_eq_nil_of_le (by omega)]
  rfl
theorem piece_of {H : Type} {enc : TypeId × Value → H} {W : World} {fuel : Nat} {cs : List Value} {y : DataW H × List MemPlace} (hf : DataW.trod enc Try.prog W 0 (fun _ => true) true fuel 27 cs = some y) :
    ∃ p : Pc, cs = pcL p ∧ PcOk p ∧ p.s.size ≤ 9223372036854775807 := by
  obtain ⟨f0, f1, f2, f3, hs, ⟨o0, o1, o2, o3⟩, k0, k1, k2, k3⟩ : ∃ f0 f1 f2 f3 : Field, Try.prog.underlying 27 = some (.struct #[f0, f1, f2, f3]) ∧ (f0.offset = 0 ∧ f1.offset = 1 ∧ f2.offset = 2 ∧ f3.offset = 3) ∧ f0.type = 9 ∧ f1.type = 2 ∧ f2.type = 2 ∧ f3.type = 25 := ⟨_, _, _, _, Try.underlying27, ⟨rfl, rfl, rfl, rfl⟩, rfl, rfl, rfl, rfl⟩
  obtain ⟨xs, n, _, hx, hlc, hlen, hg⟩ := DataW.trod_struct hs hf
  have hlen' : xs.length = 4 := hlen
  have hC : Try.prog.cellsOf 27 = 5 := by kernel_rfl
  rw [hC] at hlc
  have hst : Try.prog.cellsOf 9 = 1 := by kernel_rfl
  have h64 : Try.prog.cellsOf 2 = 1 := by kernel_rfl
  have hid : Try.prog.cellsOf 25 = 2 := by kernel_rfl
  have g0 := hg 0 f0 rfl
  rw [k0, o0, hst, List.getElem?_eq_getElem (by omega)] at g0
  have g1 := hg 1 f1 rfl
  rw [k1, o1, h64, List.getElem?_eq_getElem (by omega)] at g1
  have g2 := hg 2 f2 rfl
  rw [k2, o2, h64, List.getElem?_eq_getElem (by omega)] at g2
  have g3 := hg 3 f3 rfl
  rw [k3, o3, hid, List.getElem?_eq_getElem (by omega)] at g3
  obtain ⟨s, e0, _, hsz⟩ := DataW.trod_string Try.underlying9 g0
  obtain ⟨z1, e1, _, w1⟩ := DataW.trod_int Try.underlying2 g1
  have b1 := bounds_i64 w1
  obtain ⟨z2, e2, _, w2⟩ := DataW.trod_int Try.underlying2 g2
  have b2 := bounds_i64 w2
  obtain ⟨n3, d3, hn, hd, e3⟩ := mark_of g3
  refine ⟨⟨s, z1, z2, n3, d3⟩, ?_, ⟨b1.1, by show z1 ≤ _; omega, b2.1, by show z2 ≤ _; omega, hn, hd⟩, by simpa [maxLen] using hsz⟩
  have c0 := cut_eqP (n := 1) 0 [_] rfl e0
  have c1 := cut_eqP (n := 1) 1 [_] rfl e1
  have c2 := cut_eqP (n := 1) 2 [_] rfl e2
  have c3 := cut_eqP (n := 2) 3 [_, _] rfl e3
  rw [List.drop_zero] at c0
  rw [c0, show 0 + 1 = 1 from rfl, c1, show 1 + 1 = 2 from rfl, c2, show 2 + 1 = 3 from rfl, c3, List.drop_eq_nil_of_le (by omega)]
  rfl
theorem open_pieces {H : Type} {enc : TypeId × Value → H} {W : World} {base : Nat} {v : Value} {d : DataW H} {p : List MemPlace} (hv : Value.okWide Try.prog W .any base 34 v)
    (h : DataW.Trod enc Try.prog W 0 (fun _ => true) true 34 v d p) :
    ∃ (A : Option Addr) (l : List Pc) (cap : Nat), v = .slice A l.length cap ∧ l.length ≤ cap ∧ l.length ≤ 9223372036854775807 ∧ (∀ p ∈ l, PcOk p ∧ p.s.size ≤ 9223372036854775807) ∧ RdP W W.heap.size A l := by
  have hC : Try.prog.cellsOf 27 = 5 := by kernel_rfl
  obtain ⟨A, len, cap, rfl⟩ := okWide_slice Try.underlying34 hv
  obtain ⟨fuel, hf⟩ := h
  rcases DataW.trod_slice Try.underlying34 hf with ⟨hcs, _⟩ | ⟨a, len', cap', elems, rest, n, _, hcs, _, hb, hl, hm, hlen, helem, _, _⟩
  · simp [Value.cells] at hcs
    obtain ⟨rfl, rfl, rfl⟩ := hcs
    exact ⟨none, [], 0, rfl, Nat.le_refl _, by simp, by simp, Rd.nil_ _ _ _⟩
  · simp [Value.cells] at hcs
    obtain ⟨rfl, rfl, rfl⟩ := hcs
    have key : ∀ m, m ≤ len → ∃ L : List Pc, L.length = m ∧ (∀ p ∈ L, PcOk p ∧ p.s.size ≤ 9223372036854775807) ∧ AtA W a (pcs L) := by
      intro m
      induction m with
      | zero => intro _; exact ⟨[], rfl, by simp, by intro j u hu; simp [pcs_nil] at hu⟩
      | succ m ih =>
        intro hm1
        obtain ⟨L, hL, hLs, hLc⟩ := ih (by omega)
        have he := helem m (by omega)
        have hem : elems[m]? = some (elems[m]'(by omega)) := List.getElem?_eq_getElem (by omega)
        rw [hem, hC, Option.bind_eq_some_iff] at he
        obtain ⟨cs', hcs', hy⟩ := he
        obtain ⟨q, rfl, hq⟩ := piece_of hy
        obtain ⟨_, _, hcell⟩ := World.cells?_some hcs'
        refine ⟨L ++ [q], by rw [List.length_append, hL]; rfl, fun c hc => (List.mem_append.1 hc).elim (hLs c) (fun h => by rw [List.mem_singleton.1 h]; exact hq), fun j u hu => ?_⟩
        rw [pcs_app] at hu
        rcases Nat.lt_or_ge j (m * 5) with hj | hj
        · rw [List.getElem?_append_left (by rw [pcs_len, hL]; exact hj)] at hu
          exact hLc j u hu
        · rw [List.getElem?_append_right (by rw [pcs_len, hL]; exact hj), pcs_len, hL, pcs_cons, pcs_nil, List.append_nil] at hu
          have hj2 : j - m * 5 < 5 := by
            rcases Nat.lt_or_ge (j - m * 5) 5 with h1 | h1
            · exact h1
            · rw [List.getElem?_eq_none (by simp [pcL]; omega)] at hu; cases hu
          have h2 := hcell (j - m * 5) hj2
          rw [Addr.add_add, show m * 5 + (j - m * 5) = j by omega] at h2
          rw [h2, hu]
    obtain ⟨L, hL, hLs, hLc⟩ := key len (Nat.le_refl _)
    refine ⟨some a, L, cap, by rw [hL], by rw [hL]; exact hl, by rw [hL]; simp only [maxLen] at hm; omega, hLs, fun hne => ?_⟩
    have h0 : 0 < (pcs L).length := by
      rcases Nat.eq_zero_or_pos (pcs L).length with h0 | h0
      · exact absurd (List.eq_nil_of_length_eq_zero h0) hne
      · exact h0
    have hc0 := hLc 0 _ (List.getElem?_eq_getElem h0)
    refine ⟨a, rfl, by have := cell_lt hc0; rwa [add_block] at this, hLc⟩
end Go.Proofs.Ytalfmcajghmkpaa
/- A piece that came in by value, opened. -/
namespace Go.Proofs.Ytalfmcajghmkpaa
set_option maxRecDepth 100000
open Go.ChangeShapes Go.WideShapes Go.ChangeAt Go.RowKit
set_option linter.unusedVariables false
theorem open_piece {H : Type} {enc : TypeId × Value → H} {W : World} {base : Nat} {v : Value} {d : DataW H} {p : List MemPlace} (hv : Value.okWide Try.prog W .any base 27 v)
    (h : DataW.Trod enc Try.prog W 0 (fun _ => true) true 27 v d p) :
    ∃ q : Pc, v = .agg (pcV q) ∧ PcOk q ∧ q.s.size ≤ 9223372036854775807 := by
  obtain ⟨cs, rfl, _⟩ := okWide_struct Try.underlying27 hv
  obtain ⟨fuel, hf⟩ := h
  simp only [Value.cells] at hf
  obtain ⟨q, e, h1, h2⟩ := piece_of hf
  exact ⟨q, by rw [pcV, ← e], h1, h2⟩
end Go.Proofs.Ytalfmcajghmkpaa
/- What pieces are merged to: plain. -/
namespace Go.Proofs.Ytalfmcajghmkpaa
open Go.RowKit
set_option linter.unusedVariables false
set_option linter.unusedSimpArgs false
theorem bless_trans : ∀ l m k : List UInt8, Op.bytesLess l m = true → Op.bytesLess m k = true → Op.bytesLess l k = true
  | [], _, [], h1, h2 => by
    rename_i m
    cases m <;> simp [Op.bytesLess] at h2
  | [], m, c :: k, _, _ => rfl
  | a :: l, [], k, h, _ => by simp [Op.bytesLess] at h
  | a :: l, b :: m, [], _, h => by simp [Op.bytesLess] at h
  | a :: l, b :: m, c :: k, h1, h2 => by
    rw [Op.bytesLess] at h1 h2 ⊢
    simp only [Bool.or_eq_true, Bool.and_eq_true, decide_eq_true_eq, beq_iff_eq] at h1 h2 ⊢
    rcases h1 with h1 | ⟨rfl, h1⟩ <;> rcases h2 with h2 | ⟨rfl, h2⟩
    · left; rw [UInt8.lt_iff_toNat_lt] at h1 h2 ⊢; omega
    · exact .inl h1
    · exact .inl h2
    · exact .inr ⟨rfl, bless_trans l m k h1 h2⟩
def samePl (a b : Pc) : Bool := (a.s.toList == b.s.toList) && (a.t == b.t)
theorem samePl_iff (a b : Pc) : samePl a b = true ↔ a.s = b.s ∧ a.t = b.t := by
  unfold samePl
  simp only [Bool.and_eq_true, beq_iff_eq]
  exact ⟨fun h => ⟨toList_inj h.1, h.2⟩, fun h => ⟨by rw [h.1], h.2⟩⟩
theorem okPair_iff (a b : Pc) : okPair a b = true ↔ ltS a.s b.s = true ∨ (a.s = b.s ∧ a.t < b.t) := by
  unfold okPair
  simp only [Bool.or_eq_true, Bool.and_eq_true, beq_iff_eq, decide_eq_true_eq]
  exact ⟨fun h => h.imp id (fun h => ⟨toList_inj h.1, h.2⟩), fun h => h.imp id (fun h => ⟨by rw [h.1], h.2⟩)⟩
theorem ltS_irr (s : ByteArray) : ltS s s = false := bless_irr _
theorem ltS_trans {a b c : ByteArray} (h1 : ltS a b = true) (h2 : ltS b c = true) : ltS a c = true := bless_trans _ _ _ h1 h2
theorem okPair_irr (a b : Pc) (h : samePl a b = true) : okPair a b = false := by
  rw [samePl_iff] at h
  cases hk : okPair a b with
  | false => rfl
  | true =>
    rw [okPair_iff] at hk
    rcases hk with h1 | h1
    · rw [h.1, ltS_irr] at h1; cases h1
    · have := h1.2; omega
theorem okPair_trans {a b c : Pc} (h1 : okPair a b = true) (h2 : okPair b c = true) : okPair a c = true := by
  rw [okPair_iff] at *
  rcases h1 with h1 | ⟨e1, h1⟩ <;> rcases h2 with h2 | ⟨e2, h2⟩
  · exact .inl (ltS_trans h1 h2)
  · left; rw [← e2]; exact h1
  · left; rw [e1]; exact h2
  · exact .inr ⟨e1.trans e2, by omega⟩
theorem okPair_tri {a b : Pc} (h1 : samePl a b = false) (h2 : okPair a b = false) : okPair b a = true := by
  rw [okPair_iff]
  have n1 : ¬ (a.s = b.s ∧ a.t = b.t) := fun h => by rw [(samePl_iff a b).2 h] at h1; cases h1
  have n2 : ¬ (ltS a.s b.s = true ∨ (a.s = b.s ∧ a.t < b.t)) := fun h => by rw [(okPair_iff a b).2 h] at h2; cases h2
  by_cases he : a.s = b.s
  · right
    refine ⟨he.symm, ?_⟩
    have m1 : ¬ a.t = b.t := fun h => n1 ⟨he, h⟩
    have m2 : ¬ a.t < b.t := fun h => n2 (.inr ⟨he, h⟩)
    omega
  · left
    have m2 : ltS a.s b.s = false := by
      cases h : ltS a.s b.s with
      | false => rfl
      | true => exact absurd (.inl h) n2
    exact bless_tri _ _ (fun h => he (toList_inj h)) m2
theorem samePl_comm (a b : Pc) : samePl a b = samePl b a := by
  rw [Bool.eq_iff_iff, samePl_iff, samePl_iff]
  exact ⟨fun h => ⟨h.1.symm, h.2.symm⟩, fun h => ⟨h.1.symm, h.2.symm⟩⟩
theorem samePl_refl (a : Pc) : samePl a a = true := (samePl_iff a a).2 ⟨rfl, rfl⟩
theorem samePl_trans {a b c : Pc} (h1 : samePl a b = true) (h2 : samePl b c = true) : samePl a c = true := by
  rw [samePl_iff] at *
  exact ⟨h1.1.trans h2.1, h1.2.trans h2.2⟩
theorem okPair_congr {a b c : Pc} (h : samePl a b = true) : okPair a c = okPair b c ∧ okPair c a = okPair c b := by
  rw [samePl_iff] at h
  constructor
  · rw [Bool.eq_iff_iff, okPair_iff, okPair_iff, h.1, h.2]
  · rw [Bool.eq_iff_iff, okPair_iff, okPair_iff, h.1, h.2]
/-- whether p counts more than q -/
def better (p q : Pc) : Bool := decide (q.n < p.n) || ((q.n == p.n) && (decide (q.d < p.d) || ((q.d == p.d) && decide (q.v < p.v))))
theorem better_iff (p q : Pc) : better p q = true ↔ q.n < p.n ∨ (q.n = p.n ∧ (q.d < p.d ∨ (q.d = p.d ∧ q.v < p.v))) := by
  unfold better
  simp only [Bool.or_eq_true, Bool.and_eq_true, beq_iff_eq, decide_eq_true_eq]
theorem better_no (p q : Pc) : better p q = false ↔ ¬ (q.n < p.n ∨ (q.n = p.n ∧ (q.d < p.d ∨ (q.d = p.d ∧ q.v < p.v)))) := by
  rw [← better_iff]; simp
theorem better_irr (p : Pc) : better p p = false := by rw [better_no]; omega
theorem better_asym {p q : Pc} (h : better p q = true) : better q p = false := by rw [better_iff] at h; rw [better_no]; omega
theorem better_trans {p q r : Pc} (h1 : better p q = true) (h2 : better q r = true) : better p r = true := by rw [better_iff] at *; omega
/-- r is not better than q, p is better than q: p is better than r -/
theorem better_over {p q r : Pc} (h1 : better p q = true) (h2 : better r q = false) : better p r = true := by rw [better_iff] at *; rw [better_no] at h2; omega
theorem better_ntrans {p q r : Pc} (h1 : better p q = false) (h2 : better q r = false) : better p r = false := by rw [better_no] at *; omega
theorem rank_eq {p q : Pc} (h0 : samePl p q = true) (h1 : better p q = false) (h2 : better q p = false) : p = q := by
  rw [samePl_iff] at h0
  rw [better_no] at h1 h2
  cases p with
  | mk s t v n d => cases q with
    | mk s' t' v' n' d' =>
      simp only at h0 h1 h2
      obtain ⟨rfl, rfl⟩ := h0
      have e1 : n = n' := by omega
      have e2 : d = d' := by omega
      have e3 : v = v' := by omega
      subst e1 e2 e3
      rfl
def insP (p : Pc) : List Pc → List Pc
  | [] => [p]
  | q :: M => if samePl q p then (if better p q then p :: M else q :: M) else if okPair q p then q :: insP p M else p :: q :: M
def mgTo (M : List Pc) : List Pc → List Pc
  | [] => M
  | p :: l => mgTo (if ckP p then insP p M else M) l
def mergeL (l : List Pc) : List Pc := mgTo [] l
theorem mgTo_app (M l m : List Pc) : mgTo M (l ++ m) = mgTo (mgTo M l) m := by
  induction l generalizing M with
  | nil => rfl
  | cons p l ih => rw [List.cons_append, mgTo, mgTo, ih]
def SortP (M : List Pc) : Prop := M.Pairwise fun a b => okPair a b = true
theorem ins_mem (p : Pc) : ∀ (M : List Pc) x, x ∈ insP p M → x = p ∨ x ∈ M
  | [], x, h => by simp [insP] at h; exact .inl h
  | q :: M, x, h => by
    rw [insP] at h
    split at h
    · split at h
      · rcases List.mem_cons.1 h with h | h
        · exact .inl h
        · exact .inr (List.mem_cons_of_mem _ h)
      · exact .inr h
    · split at h
      · rcases List.mem_cons.1 h with h | h
        · exact .inr (by rw [h]; exact List.mem_cons_self ..)
        · exact (ins_mem p M x h).imp id (List.mem_cons_of_mem _)
      · rcases List.mem_cons.1 h with h | h
        · exact .inl h
        · exact .inr h
theorem ins_sorted (p : Pc) : ∀ {M : List Pc}, SortP M → SortP (insP p M)
  | [], _ => by unfold SortP; simp [insP]
  | q :: M, h => by
    obtain ⟨h1, h2⟩ := List.pairwise_cons.1 h
    rw [insP]
    by_cases hs : samePl q p = true
    · rw [if_pos hs]
      split
      · refine List.pairwise_cons.2 ⟨fun x hx => ?_, h2⟩
        rw [← (okPair_congr hs).1]
        exact h1 x hx
      · exact h
    · rw [if_neg hs]
      have hsf : samePl q p = false := by simpa using hs
      by_cases ho : okPair q p = true
      · rw [if_pos ho]
        refine List.pairwise_cons.2 ⟨fun x hx => ?_, ins_sorted p h2⟩
        rcases ins_mem p M x hx with rfl | hx
        · exact ho
        · exact h1 x hx
      · rw [if_neg ho]
        have hpq := okPair_tri hsf (by simpa using ho)
        refine List.pairwise_cons.2 ⟨fun x hx => ?_, h⟩
        rcases List.mem_cons.1 hx with rfl | hx
        · exact hpq
        · exact okPair_trans hpq (h1 x hx)
/-- who stands in the list behind an insertion -/
theorem mem_ins (p : Pc) : ∀ {M : List Pc}, SortP M → ∀ x, x ∈ insP p M ↔ (x ∈ M ∧ (samePl x p = true → better p x = false)) ∨ (x = p ∧ ∀ q ∈ M, samePl q p = true → better p q = true)
  | [], _, x => by simp [insP]
  | q :: M, h, x => by
    obtain ⟨h1, h2⟩ := List.pairwise_cons.1 h
    rw [insP]
    by_cases hs : samePl q p = true
    · rw [if_pos hs]
      -- nobody else has this place
      have hno : ∀ y ∈ M, samePl y p = false := fun y hy => by
        cases hyp : samePl y p with
        | false => rfl
        | true =>
          have hqy : samePl q y = true := samePl_trans hs (by rw [samePl_comm]; exact hyp)
          have := okPair_irr q y hqy
          rw [h1 y hy] at this
          cases this
      by_cases hb : better p q = true
      · rw [if_pos hb]
        constructor
        · intro hx
          rcases List.mem_cons.1 hx with rfl | hx
          · refine .inr ⟨rfl, fun y hy hyp => ?_⟩
            rcases List.mem_cons.1 hy with rfl | hy
            · exact hb
            · rw [hno y hy] at hyp; cases hyp
          · exact .inl ⟨List.mem_cons_of_mem _ hx, fun hxp => by rw [hno x hx] at hxp; cases hxp⟩
        · rintro (⟨hx, hxb⟩ | ⟨rfl, _⟩)
          · rcases List.mem_cons.1 hx with rfl | hx
            · rw [hxb hs] at hb; cases hb
            · exact List.mem_cons_of_mem _ hx
          · exact List.mem_cons_self ..
      · rw [if_neg hb]
        have hbf : better p q = false := by simpa using hb
        constructor
        · intro hx
          refine .inl ⟨hx, fun hxp => ?_⟩
          rcases List.mem_cons.1 hx with rfl | hx
          · exact hbf
          · rw [hno x hx] at hxp; cases hxp
        · rintro (⟨hx, _⟩ | ⟨rfl, hall⟩)
          · exact hx
          · exact absurd (hall q (List.mem_cons_self ..) hs) hb
    · rw [if_neg hs]
      have hsf : samePl q p = false := by simpa using hs
      by_cases ho : okPair q p = true
      · rw [if_pos ho, List.mem_cons, mem_ins p h2 x]
        constructor
        · rintro (rfl | ⟨hx, hxb⟩ | ⟨rfl, hall⟩)
          · exact .inl ⟨List.mem_cons_self .., fun hxp => by rw [hsf] at hxp; cases hxp⟩
          · exact .inl ⟨List.mem_cons_of_mem _ hx, hxb⟩
          · refine .inr ⟨rfl, fun y hy hyp => ?_⟩
            rcases List.mem_cons.1 hy with rfl | hy
            · rw [hsf] at hyp; cases hyp
            · exact hall y hy hyp
        · rintro (⟨hx, hxb⟩ | ⟨rfl, hall⟩)
          · rcases List.mem_cons.1 hx with rfl | hx
            · exact .inl rfl
            · exact .inr (.inl ⟨hx, hxb⟩)
          · exact .inr (.inr ⟨rfl, fun y hy hyp => hall y (List.mem_cons_of_mem _ hy) hyp⟩)
      · rw [if_neg ho]
        have hpq := okPair_tri hsf (by simpa using ho)
        -- all of them stand behind p
        have hno : ∀ y ∈ q :: M, samePl y p = false := fun y hy => by
          have hpy : okPair p y = true := by
            rcases List.mem_cons.1 hy with rfl | hy
            · exact hpq
            · exact okPair_trans hpq (h1 y hy)
          cases hyp : samePl y p with
          | false => rfl
          | true =>
            have := okPair_irr p y (by rw [samePl_comm]; exact hyp)
            rw [hpy] at this
            cases this
        constructor
        · intro hx
          rcases List.mem_cons.1 hx with rfl | hx
          · exact .inr ⟨rfl, fun y hy hyp => by rw [hno y hy] at hyp; cases hyp⟩
          · exact .inl ⟨hx, fun hxp => by rw [hno x hx] at hxp; cases hxp⟩
        · rintro (⟨hx, _⟩ | ⟨rfl, _⟩)
          · exact List.mem_cons_of_mem _ hx
          · exact List.mem_cons_self ..
/-- the piece that counts at its place -/
def IsWin (L : List Pc) (x : Pc) : Prop := x ∈ L ∧ ckP x = true ∧ ∀ q ∈ L, ckP q = true → samePl q x = true → better q x = false
theorem exists_win : ∀ (pre : List Pc) (q : Pc), q ∈ pre → ckP q = true → ∃ w0, IsWin pre w0 ∧ samePl w0 q = true ∧ better q w0 = false := by
  intro pre
  induction pre with
  | nil => intro q hq; cases hq
  | cons p pre ih =>
    intro q hq hcq
    -- the best of those that stand at q's place
    have hbest : ∃ w1, w1 ∈ p :: pre ∧ ckP w1 = true ∧ samePl w1 q = true ∧ (∀ y ∈ p :: pre, ckP y = true → samePl y q = true → better y w1 = false) := by
      by_cases hin : ∃ y ∈ pre, ckP y = true ∧ samePl y q = true
      · obtain ⟨y, hy, hcy, hyq⟩ := hin
        obtain ⟨w0, ⟨b1, b2, b3⟩, c1, c2⟩ := ih y hy hcy
        have hwq : samePl w0 q = true := samePl_trans c1 hyq
        by_cases hp : ckP p = true ∧ samePl p q = true ∧ better p w0 = true
        · refine ⟨p, List.mem_cons_self .., hp.1, hp.2.1, fun z hz hcz hzq => ?_⟩
          rcases List.mem_cons.1 hz with rfl | hz
          · exact better_irr _
          · have h3 := b3 z hz hcz (samePl_trans hzq (by rw [samePl_comm]; exact hwq))
            exact better_asym (better_over hp.2.2 h3)
        · refine ⟨w0, List.mem_cons_of_mem _ b1, b2, hwq, fun z hz hcz hzq => ?_⟩
          rcases List.mem_cons.1 hz with rfl | hz
          · cases hbz : better z w0 with
            | false => rfl
            | true => exact absurd ⟨hcz, hzq, hbz⟩ hp
          · exact b3 z hz hcz (samePl_trans hzq (by rw [samePl_comm]; exact hwq))
      · rcases List.mem_cons.1 hq with rfl | hq
        · refine ⟨q, List.mem_cons_self .., hcq, samePl_refl q, fun z hz hcz hzq => ?_⟩
          rcases List.mem_cons.1 hz with rfl | hz
          · exact better_irr _
          · exact absurd ⟨z, hz, hcz, hzq⟩ hin
        · exact absurd ⟨q, hq, hcq, samePl_refl q⟩ hin
    obtain ⟨w1, d1, d2, d3, d4⟩ := hbest
    refine ⟨w1, ⟨d1, d2, fun z hz hcz hzw => d4 z hz hcz (samePl_trans hzw d3)⟩, d3, d4 q hq hcq (samePl_refl q)⟩
theorem mgTo_spec : ∀ (l pre M : List Pc), SortP M → (∀ x, x ∈ M ↔ IsWin pre x) → SortP (mgTo M l) ∧ ∀ x, x ∈ mgTo M l ↔ IsWin (pre ++ l) x
  | [], pre, M, h1, h2 => by rw [List.append_nil]; exact ⟨h1, h2⟩
  | p :: l, pre, M, h1, h2 => by
    rw [mgTo]
    have e : pre ++ p :: l = (pre ++ [p]) ++ l := by simp
    rw [e]
    by_cases hc : ckP p = true
    · rw [if_pos hc]
      refine mgTo_spec l (pre ++ [p]) _ (ins_sorted p h1) (fun x => ?_)
      rw [mem_ins p h1 x]
      constructor
      · rintro (⟨hx, hb⟩ | ⟨rfl, hall⟩)
        · obtain ⟨a1, a2, a3⟩ := (h2 x).1 hx
          refine ⟨List.mem_append_left _ a1, a2, fun q hq hcq hqx => ?_⟩
          rcases List.mem_append.1 hq with hq | hq
          · exact a3 q hq hcq hqx
          · obtain rfl := List.mem_singleton.1 hq
            exact hb (by rw [samePl_comm]; exact hqx)
        · refine ⟨List.mem_append_right _ (by simp), hc, fun q hq hcq hqx => ?_⟩
          rcases List.mem_append.1 hq with hq | hq
          · -- the winner at that place is beaten by x; q does not beat the winner
            obtain ⟨w0, hw0, hqw⟩ := exists_win pre q hq hcq
            have hw1 : samePl w0 x = true := samePl_trans hqw.1 hqx
            have hb := hall w0 ((h2 w0).2 hw0) hw1
            cases hqb : better q x with
            | false => rfl
            | true =>
              have h3 := better_trans hqb hb
              rw [hqw.2] at h3
              cases h3
          · obtain rfl := List.mem_singleton.1 hq
            exact better_irr _
      · rintro ⟨a1, a2, a3⟩
        rcases List.mem_append.1 a1 with hx | hx
        · left
          refine ⟨(h2 x).2 ⟨hx, a2, fun q hq => a3 q (List.mem_append_left _ hq)⟩, fun hxp => ?_⟩
          exact a3 p (List.mem_append_right _ (by simp)) hc (by rw [samePl_comm]; exact hxp)
        · obtain rfl := List.mem_singleton.1 hx
          by_cases hin : ∃ q ∈ M, samePl q x = true ∧ better x q = false
          · obtain ⟨q, hq, hqx, hqb⟩ := hin
            have hqw := (h2 q).1 hq
            have hxq := a3 q (List.mem_append_left _ hqw.1) hqw.2.1 hqx
            have heq := rank_eq hqx hxq hqb
            subst heq
            exact .inl ⟨hq, fun _ => better_irr _⟩
          · right
            refine ⟨rfl, fun q hq hqx => ?_⟩
            cases hb : better x q with
            | true => rfl
            | false => exact absurd ⟨q, hq, hqx, hb⟩ hin
    · rw [if_neg hc]
      refine mgTo_spec l (pre ++ [p]) _ h1 (fun x => ?_)
      rw [h2 x]
      constructor
      · rintro ⟨a1, a2, a3⟩
        refine ⟨List.mem_append_left _ a1, a2, fun q hq hcq hqx => ?_⟩
        rcases List.mem_append.1 hq with hq | hq
        · exact a3 q hq hcq hqx
        · obtain rfl := List.mem_singleton.1 hq
          exact absurd hcq hc
      · rintro ⟨a1, a2, a3⟩
        refine ⟨?_, a2, fun q hq => a3 q (List.mem_append_left _ hq)⟩
        rcases List.mem_append.1 a1 with hx | hx
        · exact hx
        · obtain rfl := List.mem_singleton.1 hx
          exact absurd a2 hc
theorem merge_sorted (L : List Pc) : SortP (mergeL L) := (mgTo_spec L [] [] List.Pairwise.nil (fun x => by simp [IsWin])).1
theorem mem_merge (L : List Pc) (x : Pc) : x ∈ mergeL L ↔ IsWin L x := by
  have h := (mgTo_spec L [] [] List.Pairwise.nil (fun x => by simp [IsWin])).2 x
  rwa [List.nil_append] at h
/-- sorted lists of the same members are one -/
theorem sort_uniq : ∀ {M N : List Pc}, SortP M → SortP N → (∀ x, x ∈ M ↔ x ∈ N) → M = N
  | [], [], _, _, _ => rfl
  | [], b :: N, _, _, h => absurd ((h b).2 (List.mem_cons_self ..)) (by simp)
  | a :: M, [], _, _, h => absurd ((h a).1 (List.mem_cons_self ..)) (by simp)
  | a :: M, b :: N, h1, h2, h => by
    obtain ⟨p1, p2⟩ := List.pairwise_cons.1 h1
    obtain ⟨q1, q2⟩ := List.pairwise_cons.1 h2
    have hab : a = b := by
      rcases List.mem_cons.1 ((h a).1 (List.mem_cons_self ..)) with ha | ha
      · exact ha
      · rcases List.mem_cons.1 ((h b).2 (List.mem_cons_self ..)) with hb | hb
        · exact hb.symm
        · have h3 := okPair_trans (p1 b hb) (q1 a ha)
          rw [okPair_irr a a (samePl_refl a)] at h3
          cases h3
    subst hab
    have hirr : ∀ {K : List Pc}, (∀ y ∈ K, okPair a y = true) → a ∉ K := fun hK ha => by
      have := hK a ha
      rw [okPair_irr a a (samePl_refl a)] at this
      cases this
    rw [sort_uniq p2 q2 fun x => by
      constructor
      · intro hx
        rcases List.mem_cons.1 ((h x).1 (List.mem_cons_of_mem _ hx)) with rfl | h3
        · exact absurd hx (hirr p1)
        · exact h3
      · intro hx
        rcases List.mem_cons.1 ((h x).2 (List.mem_cons_of_mem _ hx)) with rfl | h3
        · exact absurd hx (hirr q1)
        · exact h3]
theorem win_of_mem {L K : List Pc} (h : ∀ x, x ∈ L ↔ x ∈ K) (x : Pc) : IsWin L x ↔ IsWin K x := by
  unfold IsWin
  rw [h x]
  constructor
  · rintro ⟨a, b, c⟩; exact ⟨a, b, fun q hq => c q ((h q).2 hq)⟩
  · rintro ⟨a, b, c⟩; exact ⟨a, b, fun q hq => c q ((h q).1 hq)⟩
/-- it hangs on who is there alone -/
theorem merge_of_mem {L K : List Pc} (h : ∀ x, x ∈ L ↔ x ∈ K) : mergeL L = mergeL K :=
  sort_uniq (merge_sorted L) (merge_sorted K) fun x => by rw [mem_merge, mem_merge, win_of_mem h]
/-- what is merged may be merged ahead -/
theorem merge_ahead (L K : List Pc) : mergeL (mergeL L ++ K) = mergeL (L ++ K) :=
  sort_uniq (merge_sorted _) (merge_sorted _) fun x => by
    rw [mem_merge, mem_merge]
    constructor
    · rintro ⟨a, b, c⟩
      have c' : ∀ q ∈ L ++ K, ckP q = true → samePl q x = true → better q x = false := fun q hq hcq hqx => by
        rcases List.mem_append.1 hq with hq | hq
        · obtain ⟨w0, hw, h1, h2⟩ := exists_win L q hq hcq
          have h3 := c w0 (List.mem_append_left _ ((mem_merge L w0).2 hw)) hw.2.1 (samePl_trans h1 hqx)
          exact better_ntrans h2 h3
        · exact c q (List.mem_append_right _ hq) hcq hqx
      refine ⟨?_, b, c'⟩
      rcases List.mem_append.1 a with ha | ha
      · exact List.mem_append_left _ ((mem_merge L x).1 ha).1
      · exact List.mem_append_right _ ha
    · rintro ⟨a, b, c⟩
      refine ⟨?_, b, fun q hq hcq hqx => ?_⟩
      · rcases List.mem_append.1 a with ha | ha
        · exact List.mem_append_left _ ((mem_merge L x).2 ⟨ha, b, fun q hq => c q (List.mem_append_left _ hq)⟩)
        · exact List.mem_append_right _ ha
      · rcases List.mem_append.1 hq with hq | hq
        · exact c q (List.mem_append_left _ ((mem_merge L q).1 hq).1) hcq hqx
        · exact c q (List.mem_append_right _ hq) hcq hqx
theorem merge_behind (L K : List Pc) : mergeL (K ++ mergeL L) = mergeL (K ++ L) := by
  rw [merge_of_mem (K := mergeL L ++ K) (fun x => by simp [or_comm]), merge_ahead, merge_of_mem (K := K ++ L) (fun x => by simp [or_comm])]
theorem merge_self (L : List Pc) : mergeL (mergeL L ++ mergeL L) = mergeL L := by
  rw [merge_ahead, merge_behind]
  exact merge_of_mem (fun x => by simp)
theorem merge_sub (L : List Pc) : ∀ x ∈ mergeL L, x ∈ L := fun x hx => ((mem_merge L x).1 hx).1
theorem sort_nodup {M : List Pc} (h : SortP M) : M.Nodup := by
  unfold List.Nodup
  exact List.Pairwise.imp (fun {a b} h e => by rw [e, okPair_irr b b (samePl_refl b)] at h; cases h) h
theorem ins_len (p : Pc) : ∀ M : List Pc, (insP p M).length ≤ M.length + 1
  | [] => by simp [insP]
  | q :: M => by
    rw [insP]
    split
    · split <;> simp
    · split
      · have := ins_len p M; simp only [List.length_cons]; omega
      · simp
theorem mgTo_len : ∀ (l M : List Pc), (mgTo M l).length ≤ M.length + l.length
  | [], M => by simp [mgTo]
  | p :: l, M => by
    rw [mgTo]
    have h1 := mgTo_len l (if ckP p then insP p M else M)
    have h2 := ins_len p M
    simp only [List.length_cons]
    by_cases hc : ckP p = true
    · rw [if_pos hc] at h1 ⊢; omega
    · rw [if_neg hc] at h1 ⊢; omega
theorem merge_len (L : List Pc) : (mergeL L).length ≤ L.length := by
  have := mgTo_len L []
  simpa [mergeL] using this
end Go.Proofs.Ytalfmcajghmkpaa
/- Contracts: whether a piece may be; the document's room. -/
namespace Go.Proofs.Ytalfmcajghmkpaa
set_option maxRecDepth 100000
open Go.RowKit
set_option linter.unusedVariables false
set_option linter.unusedSimpArgs false
def pcE (p : Pc) : Int := if ckP p then 0 else 1
set_option maxRecDepth 100000 in
theorem pcheck_c (p : Pc) (w : World) (hz : p.s.size ≤ 9223372036854775807) : Calls Try.prog 6 #[.agg (pcV p)] w fun e w' => e = .returned (.int .i64 (pcE p)) ∧ Below w.heap.size w w' := by
  have HCK := Lib.hid (show ckP p = (decide (1 ≤ p.s.size) && decide (p.s.size ≤ 200)) from rfl)
  obtain ⟨r, hr⟩ : ∃ r, r = pcE p := ⟨_, rfl⟩
  rw [← hr]
  have h1 : Blk (w.alloc (Obj.cells (pcV p) 27)) w.heap.size 27 (pcV p) := Blk.new w _ _
  have HB := Lib.hid (show Below w.heap.size w (w.alloc (Obj.cells (pcV p) 27)) from (Below.refl _ _).alloc (Nat.le_refl _) _)
  have c0 : (w.alloc (Obj.cells (pcV p) 27)).cell? ⟨w.heap.size, 0, none⟩ = some (.string p.s) := (h1.cell 0).trans rfl
  clear h1
  rcases (show p.s.size = 0 ∨ (1 ≤ p.s.size ∧ p.s.size ≤ 200) ∨ 200 < p.s.size by omega) with hc | ⟨hc1, hc2⟩ | hc
  · have HBB := Lib.hid (show r = 1 by rw [hr]; show (if ckP p then (0 : Int) else 1) = _; rw [HCK.out, hc]; rfl)
    have HH := Lib.hid hc
    have t0 : ((p.s.size : Int) == 0) = true := by rw [hc]; rfl
    have t1 : decide ((1 : Int) ≤ (p.s.size : Int)) = false := by rw [hc]; rfl
    clear hc hz hr
    go_enter Try.func6, Try.ntmps6
    go_upto_region 1 with (refine Go.Great.wpList_boxTo rfl 27 (.tmp 0) rfl (some 1) rfl w.heap.size rfl (pcV p) rfl ?_)
    generalize w.alloc (Obj.cells (pcV p) 27) = Z at *
    go_wp2_with fail
    go_ret
    exact ⟨by rw [HBB.out]; rfl, HB.out⟩
  · have HBB := Lib.hid (show r = 0 by rw [hr]; show (if ckP p then (0 : Int) else 1) = _; rw [HCK.out, decide_eq_true hc1, decide_eq_true hc2]; rfl)
    have t0 : ((p.s.size : Int) == 0) = false := by rw [beq_eq_false_iff_ne]; omega
    have t1 : decide ((1 : Int) ≤ (p.s.size : Int)) = true := decide_eq_true (by omega)
    have t2 : decide ((200 : Int) < (p.s.size : Int)) = false := decide_eq_false (by omega)
    have t3 : decide ((p.s.size : Int) ≤ 200) = true := decide_eq_true (by omega)
    clear hc1 hc2 hz hr
    go_enter Try.func6, Try.ntmps6
    go_upto_region 1 with (refine Go.Great.wpList_boxTo rfl 27 (.tmp 0) rfl (some 1) rfl w.heap.size rfl (pcV p) rfl ?_)
    generalize w.alloc (Obj.cells (pcV p) 27) = Z at *
    go_wp2_with fail
    go_ret
    exact ⟨by rw [HBB.out]; rfl, HB.out⟩
  · have HBB := Lib.hid (show r = 1 by rw [hr]; show (if ckP p then (0 : Int) else 1) = _; rw [HCK.out, decide_eq_false (show ¬ p.s.size ≤ 200 by omega), Bool.and_false]; try rfl)
    have t0 : ((p.s.size : Int) == 0) = false := by rw [beq_eq_false_iff_ne]; omega
    have t1 : decide ((1 : Int) ≤ (p.s.size : Int)) = true := decide_eq_true (by omega)
    have t2 : decide ((200 : Int) < (p.s.size : Int)) = true := decide_eq_true (by omega)
    have t3 : decide ((p.s.size : Int) ≤ 200) = false := decide_eq_false (by omega)
    clear hc hz hr
    go_enter Try.func6, Try.ntmps6
    go_upto_region 1 with (refine Go.Great.wpList_boxTo rfl 27 (.tmp 0) rfl (some 1) rfl w.heap.size rfl (pcV p) rfl ?_)
    generalize w.alloc (Obj.cells (pcV p) 27) = Z at *
    go_wp2_with fail
    go_ret
    exact ⟨by rw [HBB.out]; rfl, HB.out⟩
set_option maxRecDepth 100000 in
theorem rpcheck_c (p : Pc) (w : World) (hz : p.s.size ≤ 9223372036854775807) : Calls Try.prog 7 #[.agg (pcV p)] w fun e w' => e = .returned (.bool (ckP p)) ∧ Below w.heap.size w w' := by
  have HCK := Lib.hid (show ckP p = (decide (1 ≤ p.s.size) && decide (p.s.size ≤ 200)) from rfl)
  obtain ⟨r, hr⟩ : ∃ r, r = ckP p := ⟨_, rfl⟩
  rw [← hr]
  have h1 : Blk (w.alloc (Obj.cells (pcV p) 27)) w.heap.size 27 (pcV p) := Blk.new w _ _
  have HB := Lib.hid (show Below w.heap.size w (w.alloc (Obj.cells (pcV p) 27)) from (Below.refl _ _).alloc (Nat.le_refl _) _)
  have c0 : (w.alloc (Obj.cells (pcV p) 27)).cell? ⟨w.heap.size, 0, none⟩ = some (.string p.s) := (h1.cell 0).trans rfl
  clear h1
  rcases (show p.s.size = 0 ∨ (1 ≤ p.s.size ∧ p.s.size ≤ 200) ∨ 200 < p.s.size by omega) with hc | ⟨hc1, hc2⟩ | hc
  · have HBB := Lib.hid (show r = false by rw [hr]; show (ckP p) = _; rw [HCK.out, hc]; rfl)
    have HH := Lib.hid hc
    have t0 : ((p.s.size : Int) == 0) = true := by rw [hc]; rfl
    have t1 : decide ((1 : Int) ≤ (p.s.size : Int)) = false := by rw [hc]; rfl
    clear hc hz hr
    go_enter Try.func7, Try.ntmps7
    go_upto_region 1 with (refine Go.Great.wpList_boxTo rfl 27 (.tmp 0) rfl (some 1) rfl w.heap.size rfl (pcV p) rfl ?_)
    generalize w.alloc (Obj.cells (pcV p) 27) = Z at *
    go_wp2_with fail
    go_ret
    exact ⟨by rw [HBB.out]; rfl, HB.out⟩
  · have HBB := Lib.hid (show r = true by rw [hr]; show (ckP p) = _; rw [HCK.out, decide_eq_true hc1, decide_eq_true hc2]; rfl)
    have t0 : ((p.s.size : Int) == 0) = false := by rw [beq_eq_false_iff_ne]; omega
    have t1 : decide ((1 : Int) ≤ (p.s.size : Int)) = true := decide_eq_true (by omega)
    have t2 : decide ((200 : Int) < (p.s.size : Int)) = false := decide_eq_false (by omega)
    have t3 : decide ((p.s.size : Int) ≤ 200) = true := decide_eq_true (by omega)
    clear hc1 hc2 hz hr
    go_enter Try.func7, Try.ntmps7
    go_upto_region 1 with (refine Go.Great.wpList_boxTo rfl 27 (.tmp 0) rfl (some 1) rfl w.heap.size rfl (pcV p) rfl ?_)
    generalize w.alloc (Obj.cells (pcV p) 27) = Z at *
    go_wp2_with fail
    go_ret
    exact ⟨by rw [HBB.out]; rfl, HB.out⟩
  · have HBB := Lib.hid (show r = false by rw [hr]; show (ckP p) = _; rw [HCK.out, decide_eq_false (show ¬ p.s.size ≤ 200 by omega), Bool.and_false]; try rfl)
    have t0 : ((p.s.size : Int) == 0) = false := by rw [beq_eq_false_iff_ne]; omega
    have t1 : decide ((1 : Int) ≤ (p.s.size : Int)) = true := decide_eq_true (by omega)
    have t2 : decide ((200 : Int) < (p.s.size : Int)) = true := decide_eq_true (by omega)
    have t3 : decide ((p.s.size : Int) ≤ 200) = false := decide_eq_false (by omega)
    clear hc hz hr
    go_enter Try.func7, Try.ntmps7
    go_upto_region 1 with (refine Go.Great.wpList_boxTo rfl 27 (.tmp 0) rfl (some 1) rfl w.heap.size rfl (pcV p) rfl ?_)
    generalize w.alloc (Obj.cells (pcV p) 27) = Z at *
    go_wp2_with fail
    go_ret
    exact ⟨by rw [HBB.out]; rfl, HB.out⟩
theorem ser_ne (p q : Pc) : (p.s.toList != q.s.toList) = true ↔ p.s ≠ q.s := by
  rw [bne_iff_ne]
  exact ⟨fun h e => h (by rw [e]), fun h e => h (toList_inj e)⟩
end Go.Proofs.Ytalfmcajghmkpaa
/- Contracts: how many pieces are of one series. -/
namespace Go.Proofs.Ytalfmcajghmkpaa
set_option maxRecDepth 100000
open Go.RowKit
set_option linter.unusedVariables false
set_option linter.unusedSimpArgs false
theorem run1_at (s : ByteArray) : ∀ (l : List Pc) (k : Nat), k ≤ run1 s l → k < l.length → ((l.getD k pc0).s = s → k + 1 ≤ run1 s l) ∧ ((l.getD k pc0).s ≠ s → run1 s l = k)
  | [], k, _, h => by simp at h
  | p :: l, 0, hk, _ => by
    unfold run1
    constructor
    · intro h
      have h' : p.s = s := h
      rw [if_pos h']; omega
    · intro h
      have h' : ¬ p.s = s := h
      rw [if_neg h']
  | p :: l, k + 1, hk, h => by
    unfold run1 at hk ⊢
    by_cases he : p.s = s
    · rw [if_pos he] at hk ⊢
      have := run1_at s l k (by omega) (by simpa using h)
      simp only [List.getD_cons_succ]
      exact ⟨fun h1 => by have := this.1 h1; omega, fun h1 => by have := this.2 h1; omega⟩
    · rw [if_neg he] at hk; omega
/-- the index of the first one that is of another series, or -1 -/
def idxR (m n : Nat) : Int := if m < n then (m : Int) else -1
end Go.Proofs.Ytalfmcajghmkpaa
/- Contract: the groups. -/
namespace Go.Proofs.Ytalfmcajghmkpaa
set_option maxRecDepth 100000
open Go.RowKit
set_option linter.unusedVariables false
set_option linter.unusedSimpArgs false
/-- the groups' slices -/
def gv (ad : Addr) (c : Nat) : Nat → List Nat → List Value
  | _, [] => []
  | off, m :: ms => .slice (some (ad.add (off * 5))) m (c - off) :: gv ad c (off + m) ms
theorem gv_len (ad : Addr) (c : Nat) : ∀ (off : Nat) (ms : List Nat), (gv ad c off ms).length = ms.length
  | _, [] => rfl
  | off, m :: ms => by rw [gv, List.length_cons, gv_len ad c (off + m) ms, List.length_cons]
theorem gv_snoc (ad : Addr) (c m : Nat) : ∀ (off : Nat) (ms : List Nat), gv ad c off (ms ++ [m]) = gv ad c off ms ++ [.slice (some (ad.add ((off + ms.sum) * 5))) m (c - (off + ms.sum))]
  | off, [] => by simp [gv]
  | off, n :: ms => by
    rw [List.cons_append, gv, gv, gv_snoc ad c m (off + n) ms, List.sum_cons, List.cons_append, Nat.add_assoc]
theorem gv_at (ad : Addr) (c : Nat) : ∀ (off : Nat) (ms : List Nat) (k : Nat), k < ms.length → (gv ad c off ms)[k]? = some (.slice (some (ad.add ((off + (ms.take k).sum) * 5))) (ms.getD k 0) (c - (off + (ms.take k).sum)))
  | off, [], k, h => by simp at h
  | off, m :: ms, 0, h => by simp [gv]
  | off, m :: ms, k + 1, h => by
    rw [gv, List.getElem?_cons_succ, gv_at ad c (off + m) ms k (by simpa using h), List.take_succ_cons, List.sum_cons, List.getD_cons_succ, Nat.add_assoc]
theorem gv_one (ad : Addr) (c off : Nat) (ms : List Nat) : ∀ u ∈ gv ad c off ms, u.oneCell' = true := by
  induction ms generalizing off with
  | nil => intro u h; cases h
  | cons m ms ih =>
    intro u h
    rcases List.mem_cons.1 h with rfl | h
    · rfl
    · exact ih _ u h
theorem grps_at (l : List Pc) : ∀ (ns : List Nat) (k : Nat) (off : Nat), k < ns.length → (cutsL ns (l.drop off)).getD k [] = (l.drop (off + (ns.take k).sum)).take (ns.getD k 0)
  | [], k, off, h => by simp at h
  | n :: ns, 0, off, h => by simp [cutsL]
  | n :: ns, k + 1, off, h => by
    rw [cutsL, List.getD_cons_succ, List.drop_drop, grps_at l ns k (off + n) (by simpa using h), List.take_succ_cons, List.sum_cons, List.getD_cons_succ, Nat.add_assoc]
theorem cutsL_len : ∀ (ns : List Nat) (l : List Pc), (cutsL ns l).length = ns.length
  | [], _ => rfl
  | n :: ns, l => by rw [cutsL, List.length_cons, cutsL_len ns, List.length_cons]
theorem grps_len (l : List Pc) : (grps l).length = (gls l).length := cutsL_len _ _
theorem gls_sum : ∀ l : List Pc, (gls l).sum = l.length := grps_ind (by rw [gls_nil]; rfl) fun p l ih => by
  rw [gls_cons, List.sum_cons, ih, List.length_drop, List.length_cons]
  have := run1_le p.s l
  omega
theorem gls_le (l : List Pc) (h : 0 < l.length) : gls l = run1 (l.getD 0 pc0).s l :: gls (l.drop (run1 (l.getD 0 pc0).s l)) ∧ 0 < run1 (l.getD 0 pc0).s l ∧ run1 (l.getD 0 pc0).s l ≤ l.length := by
  cases l with
  | nil => simp at h
  | cons p l =>
    have e : run1 p.s (p :: l) = run1 p.s l + 1 := by conv => lhs; unfold run1; rw [if_pos rfl]
    have := run1_le p.s (p :: l)
    rw [List.getD_cons_zero, e]
    rw [e] at this
    exact ⟨by rw [gls_cons, List.drop_succ_cons], by omega, this⟩
def OwnG (w : World) (base : Nat) (v : Value) (xs : List Value) : Prop := w.ownsRow base 34 1 v xs.length xs
theorem OwnG.next {w w' : World} {base : Nat} {v : Value} {xs : List Value} (h : OwnG w base v xs) (hb : Below w.heap.size w w') : OwnG w' base v xs := own_keep (S := fun _ => False) h (Only.of_below hb) (fun _ _ h => h)
theorem OwnG.alloc {w : World} {base : Nat} {v : Value} {xs : List Value} (h : OwnG w base v xs) (o : Obj) : OwnG (w.alloc o) base v xs := World.ownsRow.alloc h o
theorem OwnG.off {w w' : World} {base : Nat} {v : Value} {xs : List Value} {S : Nat → Prop} (h : OwnG w base v xs) (ho : Only S w w') (hS : ∀ k, S k → k < base) : OwnG w' base v xs :=
  own_keep h ho (fun g hg hs => by
    rcases h.2 with ⟨h1, h2⟩ | ⟨g', cap, cur, h1, hb, _⟩
    · rw [h1] at hg; cases hg
    · rw [h1] at hg
      have e : g' = g := by simpa [Value.ownBlock] using hg
      have := hS g hs
      omega)
theorem OwnG.snoc {w w' : World} {base : Nat} {v v' x : Value} {xs : List Value} (h : Apped w base 34 1 v w' v' (xs.length + 1) (xs ++ [x])) : OwnG w' base v' (xs ++ [x]) := by
  have := h.own
  unfold OwnG
  rw [List.length_append]
  exact this
theorem grpInfo : (Try.prog.info? 34).map (fun i => (i.zero, i.size, i.bytes)) = some (some (.slice none 0 0), 1, 24) := by kernel_rfl
end Go.Proofs.Ytalfmcajghmkpaa
/- Contract: the room. -/
namespace Go.Proofs.Ytalfmcajghmkpaa
set_option maxRecDepth 100000
open Go.RowKit
set_option linter.unusedVariables false
set_option linter.unusedSimpArgs false
theorem gls_pos : ∀ l : List Pc, ∀ m ∈ gls l, 0 < m := grps_ind (by rw [gls_nil]; intro m h; cases h) fun p l ih m h => by
  rw [gls_cons] at h
  rcases List.mem_cons.1 h with rfl | h
  · omega
  · exact ih m h
theorem sum_take_succ : ∀ (ms : List Nat) (k : Nat), k < ms.length → (ms.take (k + 1)).sum = (ms.take k).sum + ms.getD k 0
  | [], k, h => by simp at h
  | m :: ms, 0, h => by simp
  | m :: ms, k + 1, h => by
    rw [List.take_succ_cons, List.sum_cons, sum_take_succ ms k (by simpa using h), List.take_succ_cons, List.sum_cons, List.getD_cons_succ, Nat.add_assoc]
theorem sum_take_le : ∀ (ms : List Nat) (k : Nat), (ms.take k).sum ≤ ms.sum
  | [], k => by simp
  | m :: ms, 0 => by simp
  | m :: ms, k + 1 => by
    rw [List.take_succ_cons, List.sum_cons, List.sum_cons]
    have := sum_take_le ms k
    omega
/-- where a group begins -/
def offG (l : List Pc) (k : Nat) : Nat := ((gls l).take k).sum
def lenG (l : List Pc) (k : Nat) : Nat := (gls l).getD k 0
theorem offG_succ (l : List Pc) (k : Nat) (h : k < (gls l).length) : offG l (k + 1) = offG l k + lenG l k := sum_take_succ _ _ h
theorem offG_le (l : List Pc) (k : Nat) : offG l k ≤ l.length := by rw [← gls_sum l]; exact sum_take_le _ _
theorem lenG_pos (l : List Pc) (k : Nat) (h : k < (gls l).length) : 0 < lenG l k := gls_pos l _ (by
  unfold lenG
  rw [List.getD_eq_getElem?_getD, List.getElem?_eq_getElem h]
  exact List.getElem_mem h)
theorem offG_lt (l : List Pc) (k : Nat) (h : k < (gls l).length) : offG l k + lenG l k ≤ l.length := by rw [← offG_succ l k h]; exact offG_le _ _
theorem grpG (l : List Pc) (k : Nat) (h : k < (gls l).length) : (grps l).getD k [] = (l.drop (offG l k)).take (lenG l k) := by
  have := grps_at l (gls l) k 0 h
  rw [List.drop_zero, Nat.zero_add] at this
  exact this
theorem roomG_cons (a : List Pc) (gs : List (List Pc)) : roomG (a :: gs) = roomG [a] + roomG gs := by cases a <;> simp [roomG]
theorem roomG_snoc (gs : List (List Pc)) (g : List Pc) : roomG (gs ++ [g]) = roomG gs + roomG [g] := by
  induction gs with
  | nil => simp [roomG]
  | cons a gs ih => rw [List.cons_append, roomG_cons, ih, roomG_cons a gs, Nat.add_assoc]
theorem take_snoc_ {α : Type} (d : α) (l : List α) (k : Nat) (h : k < l.length) : l.take (k + 1) = l.take k ++ [l.getD k d] := by
  rw [List.take_succ_eq_append_getElem h]
  simp [List.getD_eq_getElem?_getD, h]
theorem room_step (l : List Pc) (k : Nat) (h : k < (gls l).length) : roomG ((grps l).take (k + 1)) = roomG ((grps l).take k) + (6 + (l.getD (offG l k) pc0).s.size) := by
  rw [take_snoc_ [] _ k (by rw [grps_len]; exact h), roomG_snoc, grpG l k h]
  have h1 := lenG_pos l k h
  have h2 := offG_lt l k h
  rw [List.drop_eq_getElem_cons (by omega), show lenG l k = (lenG l k - 1) + 1 by omega, List.take_succ_cons]
  simp [roomG, List.getD_eq_getElem?_getD, show offG l k < l.length by omega]
theorem gv_rd {W : World} {base : Nat} {v : Value} {xs : List Value} (h : OwnG W base v xs) : ∃ A cap, v = .slice A xs.length cap ∧ xs.length ≤ cap ∧ cap ≤ maxLen ∧ Rd W W.heap.size A xs := own_rd h
theorem rdG_cell {W : World} {B : Nat} {a : Addr} {xs : List Value} {u : Value} (h : Rd W B (some a) xs) (k : Nat) (hk : xs[k]? = some u) : W.cell? (a.add k) = some u := by
  obtain ⟨ad, e, _, hc⟩ := h (by intro h0; rw [h0] at hk; simp at hk)
  injection e with e
  subst e
  exact hc k u hk
end Go.Proofs.Ytalfmcajghmkpaa
/- Contract: whether pieces may be laid. -/
namespace Go.Proofs.Ytalfmcajghmkpaa
set_option maxRecDepth 100000
open Go.RowKit
set_option linter.unusedVariables false
set_option linter.unusedSimpArgs false
theorem below_setRowP (w : World) (g : Nat) (cs : Array Value) {n : Nat} (h : n ≤ g) : Below n w (w.setRow g cs) := ⟨rfl, rfl, rfl, by simp [World.setRow], fun i hi => setRow_other _ _ i _ (by omega)⟩
theorem new_rowP (W : World) (T : TypeId) (old cs : Array Value) : Blk ((W.alloc (Obj.cells old T)).setRow W.heap.size cs) W.heap.size T cs ∧ Below W.heap.size W ((W.alloc (Obj.cells old T)).setRow W.heap.size cs) :=
  ⟨setRow_heap _ _ _ _ _ (0, 0) (Blk.new W _ _), ((Below.refl _ _).alloc (Nat.le_refl _) _).trans (below_setRowP _ _ _ (Nat.le_refl _))⟩
def zPc : Array Value := pcV pc0
theorem zero_pc (w : World) : (zeroValue 27).run Try.prog w = .ok (.agg zPc) w := by kernel_rfl
theorem pcV_one (p : Pc) : (pcV p).all (·.oneCell') = true := by simp [pcV, pcL, Value.oneCell']
theorem cmpI_neg (x y : Int) : cmpI x y < 0 ↔ x < y := by unfold cmpI; split <;> (try split) <;> omega
theorem cmpI_zero (x y : Int) : cmpI x y = 0 ↔ x = y := by unfold cmpI; split <;> (try split) <;> omega
theorem cmpS_neg (a b : ByteArray) : cmpS a b < 0 ↔ ltS a b = true := by
  unfold cmpS
  split
  · rename_i h; simp [h]
  · rename_i h
    split <;> simp [h]
theorem cmpS_zero (a b : ByteArray) : cmpS a b = 0 ↔ a = b := by
  unfold cmpS
  split
  · rename_i h
    constructor
    · intro h1; omega
    · rintro rfl; unfold ltS at h; rw [bless_irr] at h; cases h
  · rename_i h
    split
    · rename_i h2
      constructor
      · intro h1; omega
      · rintro rfl; unfold ltS at h2; rw [bless_irr] at h2; cases h2
    · rename_i h2
      constructor
      · intro _
        by_cases he : a = b
        · exact he
        · unfold ltS at h h2
          have h3 := bless_tri a.toList b.toList (fun h => he (toList_inj h)) (by simpa using h)
          exact absurd h3 h2
      · intro _; rfl
/-- what the program asks of two that follow one another -/
theorem okPair_less (q p : Pc) : okPair q p = (lessP q p && !((q.s.toList == p.s.toList) && (q.t == p.t))) := by
  have hl : lessP q p = true ↔ (ltS q.s p.s = true ∨ (q.s = p.s ∧ (q.t < p.t ∨ (q.t = p.t ∧ cmpD q.n q.d p.n p.d < 0)))) := by
    unfold lessP cmpP
    rw [decide_eq_true_iff, orL]
    by_cases h0 : cmpS q.s p.s = 0
    · rw [if_pos h0]
      have h1 := (cmpS_zero _ _).1 h0
      have h2 : ¬ ltS q.s p.s = true := fun h => by have := (cmpS_neg _ _).2 h; omega
      rw [orL]
      by_cases h3 : cmpI q.t p.t = 0
      · rw [if_pos h3]
        have h4 := (cmpI_zero _ _).1 h3
        have h5 : orL [cmpD q.n q.d p.n p.d] = cmpD q.n q.d p.n p.d := by
          rw [orL]
          split
          · rename_i h6; rw [h6]; rfl
          · rfl
        rw [h5]
        constructor
        · intro h; exact .inr ⟨h1, .inr ⟨h4, h⟩⟩
        · rintro (h | ⟨_, h | ⟨_, h⟩⟩)
          · exact absurd h h2
          · omega
          · exact h
      · rw [if_neg h3]
        have h4 : q.t ≠ p.t := fun h => h3 ((cmpI_zero _ _).2 h)
        rw [cmpI_neg]
        constructor
        · intro h; exact .inr ⟨h1, .inl h⟩
        · rintro (h | ⟨_, h | ⟨h, _⟩⟩)
          · exact absurd h h2
          · exact h
          · exact absurd h h4
    · rw [if_neg h0, cmpS_neg]
      constructor
      · intro h; exact .inl h
      · rintro (h | ⟨h, _⟩)
        · exact h
        · exact absurd ((cmpS_zero _ _).2 h) h0
  rw [Bool.eq_iff_iff]
  unfold okPair
  rw [Bool.or_eq_true, Bool.and_eq_true, Bool.and_eq_true, hl, Bool.not_eq_true', Bool.and_eq_false_iff, beq_iff_eq, decide_eq_true_iff, beq_eq_false_iff_ne, beq_eq_false_iff_ne]
  constructor
  · rintro (h | ⟨h, h2⟩)
    · refine ⟨.inl h, .inl (fun e => ?_)⟩
      unfold ltS at h
      rw [e, bless_irr] at h
      cases h
    · exact ⟨.inr ⟨toList_inj h, .inl h2⟩, .inr (by omega)⟩
  · rintro ⟨h | ⟨h, h2⟩, h3⟩
    · exact .inl h
    · rcases h3 with h3 | h3
      · exact absurd (by rw [h]) h3
      · rcases h2 with h2 | ⟨h2, _⟩
        · exact .inr ⟨by rw [h], h2⟩
        · exact absurd h2 h3
theorem AtA.tim {w : World} {a : Addr} {p : Pc} (h : AtA w a (pcL p)) : w.cell? ⟨a.block, a.off + 1, none⟩ = some (.int .i64 p.t) := h 1 _ rfl
theorem run_loadA {P : Program} (w : World) (a : Addr) (ty : TypeId) (l : List Value) (d : TypeDesc) (hc : AtA w a l) (hu : P.underlying ty = some d) (hd : d.isRow = true) (hi : (P.info? ty).map (·.size) = some l.length) {o : Oper} {ρ : Operand → Value} (x : Operand) (ho : o.op = .load ty x) (hx : ρ x = .pointer (some a)) :
    (execOp ρ o).run P w = .ok (.value (.agg l.toArray)) w := by
  unfold execOp
  simp only [ho, hx, Instr.loadAt, Instr.sureAddr, Sem.run_bind, Sem.run_pure, Result.andThen_ok, run_loadVar_at w a ty l d hc hu hd hi]
theorem AtA.blk {w : World} {g : Nat} {T : TypeId} {p : Pc} (h : Blk w g T (pcV p)) : AtA w ⟨g, 0, none⟩ (pcL p) := fun j v hv => by
  rw [Addr.add_mid, Nat.zero_add]
  refine (h.cell j).trans ?_
  rw [← hv]
  exact List.getElem?_toArray
theorem wpQuiet_loadA {P : Program} {ops : Array Oper} {C : World → Prop} {Q : Act → Prop} {a : Act} {o : Oper} {rest : List Oper} (ty : TypeId) (x : Operand) (ho : o.op = .load ty x) (hw : Region.wanted o (yielded ops a.tmps) = true) (b : Addr) (hx : a.eval x = .pointer (some b))
    (l : List Value) (d : TypeDesc) (hC : ∀ w, C w → AtA w b l) (hu : P.underlying ty = some d) (hd : d.isRow = true) (hi : (P.info? ty).map (·.size) = some l.length)
    (a' : Act) (ha : a.put o.dst (.agg l.toArray) = a') (h : wpQuiet P ops C Q rest a') : wpQuiet P ops C Q (o :: rest) a := by
  refine BigFrame.wpQuiet_want hw fun K hK => ⟨.agg l.toArray, fun w hw' => ?_, ?_⟩
  · unfold Oper.quietAt execOp
    simp only [ho, hx, Instr.loadAt, Instr.sureAddr, Sem.run_bind, Sem.run_pure, Result.andThen_ok, run_loadVar_at w b ty l d (hC w hw') hu hd hi]
    exact ⟨rfl, rfl⟩
  · rw [ha]; exact hK _ h
theorem okAt_zero (l : List Pc) : okAt l 0 = ckP (l.getD 0 pc0) := by unfold okAt; simp
theorem okAt_succ (l : List Pc) (j : Nat) : okAt l (j + 1) = (ckP (l.getD (j + 1) pc0) && okPair (l.getD j pc0) (l.getD (j + 1) pc0)) := by unfold okAt; simp
theorem pcE_ok {p : Pc} (h : ckP p = true) : pcE p = 0 := by unfold pcE; rw [if_pos h]
theorem pcE_bad {p : Pc} (h : ckP p = false) : pcE p = 1 := by unfold pcE; rw [h]; rfl
end Go.Proofs.Ytalfmcajghmkpaa
/- What pieces are sorted to, and the words of Merge's map: plain. -/
namespace Go.Proofs.Ytalfmcajghmkpaa
set_option maxRecDepth 100000
open Go.RowKit
open Go.Sort (SWO PermIn SortedIn)
set_option linter.unusedVariables false
set_option linter.unusedSimpArgs false
theorem orL2_neg (a b : Int) : orL [a, b] < 0 ↔ a < 0 ∨ (a = 0 ∧ b < 0) := by
  simp only [orL]
  split <;> (try split) <;> omega
theorem orL3_neg (a b c : Int) : orL [a, b, c] < 0 ↔ a < 0 ∨ (a = 0 ∧ (b < 0 ∨ (b = 0 ∧ c < 0))) := by
  simp only [orL]
  split <;> (try split) <;> (try split) <;> omega
def rankLt (a b : Pc) : Prop := a.t < b.t ∨ (a.t = b.t ∧ (a.n < b.n ∨ (a.n = b.n ∧ a.d < b.d)))
theorem cmpP_neg (a b : Pc) : cmpP a b < 0 ↔ ltS a.s b.s = true ∨ (a.s = b.s ∧ rankLt a b) := by
  unfold cmpP cmpD rankLt
  rw [orL3_neg, orL2_neg, cmpS_neg, cmpS_zero, cmpI_neg, cmpI_zero, cmpI_neg, cmpI_zero, cmpI_neg]
  simp only [Int.ofNat_lt, Int.ofNat_inj]
theorem ltS_tri {a b : ByteArray} (h : a ≠ b) (h2 : ltS a b = false) : ltS b a = true := bless_tri _ _ (fun e => h (toList_inj e)) h2
theorem cmpP_swo : SWO (ltOf cmpP) where
  irrefl x := by
    unfold ltOf
    rw [decide_eq_false_iff_not, cmpP_neg, ltS_irr]
    rintro (h | ⟨_, h⟩)
    · cases h
    · unfold rankLt at h; omega
  trans x y z h1 h2 := by
    unfold ltOf at *
    rw [decide_eq_true_iff, cmpP_neg] at *
    rcases h1 with h1 | ⟨e1, h1⟩ <;> rcases h2 with h2 | ⟨e2, h2⟩
    · exact .inl (ltS_trans h1 h2)
    · left; rw [← e2]; exact h1
    · left; rw [e1]; exact h2
    · refine .inr ⟨e1.trans e2, ?_⟩
      unfold rankLt at *
      omega
  ntrans x y z h1 h2 := by
    unfold ltOf at *
    rw [decide_eq_false_iff_not, cmpP_neg] at *
    intro h3
    have n1 : ltS x.s y.s = false := by
      cases h : ltS x.s y.s with
      | false => rfl
      | true => exact absurd (.inl h) h1
    have n2 : ltS y.s z.s = false := by
      cases h : ltS y.s z.s with
      | false => rfl
      | true => exact absurd (.inl h) h2
    by_cases e1 : x.s = y.s
    · by_cases e2 : y.s = z.s
      · have h4 : ¬ rankLt x y := fun h => h1 (.inr ⟨e1, h⟩)
        have h5 : ¬ rankLt y z := fun h => h2 (.inr ⟨e2, h⟩)
        rcases h3 with h3 | ⟨_, h3⟩
        · rw [e1, e2, ltS_irr] at h3; cases h3
        · unfold rankLt at *; omega
      · rcases h3 with h3 | ⟨h3, _⟩
        · rw [e1, n2] at h3; cases h3
        · exact e2 (e1.symm.trans h3)
    · have h4 := ltS_tri e1 n1
      rcases h3 with h3 | ⟨h3, _⟩
      · rw [ltS_trans h4 h3] at n2; cases n2
      · rw [← h3, h4] at n2; cases n2
theorem pair_total {M : List Pc} (h : SortP M) : ∀ {a b : Pc}, a ∈ M → b ∈ M → a ≠ b → okPair a b = true ∨ okPair b a = true := by
  induction M with
  | nil => intro a b ha; cases ha
  | cons q M ih =>
    obtain ⟨h1, h2⟩ := List.pairwise_cons.1 h
    intro a b ha hb hne
    rcases List.mem_cons.1 ha with e1 | ha2
    · rcases List.mem_cons.1 hb with e2 | hb2
      · exact absurd (e1.trans e2.symm) hne
      · rw [e1]; exact .inl (h1 b hb2)
    · rcases List.mem_cons.1 hb with e2 | hb2
      · rw [e2]; exact .inr (h1 a ha2)
      · exact ih h2 ha2 hb2 hne
theorem sort_place {M : List Pc} (h : SortP M) {a b : Pc} (ha : a ∈ M) (hb : b ∈ M) (hs : samePl a b = true) : a = b := by
  by_cases he : a = b
  · exact he
  · rcases pair_total h ha hb he with h1 | h1
    · rw [okPair_irr a b hs] at h1; cases h1
    · rw [okPair_irr b a (by rw [samePl_comm]; exact hs)] at h1; cases h1
theorem okPair_cmp {a b : Pc} (h : okPair a b = true) : cmpP a b < 0 := by
  rw [cmpP_neg]
  rw [okPair_iff] at h
  rcases h with h | ⟨e, h⟩
  · exact .inl h
  · exact .inr ⟨e, .inl h⟩
instance : Inhabited Pc := ⟨pc0⟩
/-- members of a sorted list, each once, sorted: that list -/
theorem sorted_eq {M ss : List Pc} {d' : Array Pc} (hM : SortP M) (hmem : ∀ p, p ∈ ss ↔ p ∈ M) (hnd : ss.Nodup)
    (hp : PermIn 0 ss.toArray.size ss.toArray d') (hs : SortedIn (ltOf cmpP) 0 ss.toArray.size d') : d'.toList = M := by
  obtain ⟨h1, _, h3⟩ := hp
  have e1 : d'.extract 0 ss.toArray.size = d' := by rw [← h1]; simp
  have e2 : ss.toArray.extract 0 ss.toArray.size = ss.toArray := by simp
  rw [e1, e2] at h3
  have hperm : d'.toList.Perm ss := h3
  have hnd' : d'.toList.Nodup := (hperm.nodup_iff).2 hnd
  refine sort_uniq ?_ hM fun x => by rw [hperm.mem_iff, hmem]
  unfold SortP
  rw [List.pairwise_iff_getElem]
  intro i j hi hj hij
  have hi' : i < d'.size := by simpa using hi
  have hj' : j < d'.size := by simpa using hj
  have hlt := hs i j (Nat.zero_le _) hij (by rw [← h1]; exact hj')
  rw [getElem!_pos d' i hi', getElem!_pos d' j hj'] at hlt
  have m1 : d'.toList[i] ∈ M := (hmem _).1 (hperm.mem_iff.1 (List.getElem_mem hi))
  have m2 : d'.toList[j] ∈ M := (hmem _).1 (hperm.mem_iff.1 (List.getElem_mem hj))
  have hne : d'.toList[i] ≠ d'.toList[j] := fun e => by
    exact List.pairwise_iff_getElem.1 hnd' i j hi hj hij e
  rcases pair_total hM m1 m2 hne with h | h
  · exact h
  · have := okPair_cmp h
    unfold ltOf at hlt
    rw [decide_eq_false_iff_not] at hlt
    exact absurd this (by simpa using hlt)
/-! the map -/
def plL (p : Pc) : Lit := .string (keyBytes [.string p.s.data.toList, .int .i64 p.t])
theorem plL_same {p q : Pc} (h : samePl p q = true) : plL p = plL q := by
  rw [samePl_iff] at h
  unfold plL
  rw [h.1, h.2]
theorem plL_key (p : Pc) : WideAt.IsKeyLit (plL p) := trivial
def Pin (V : Pc → Prop) : Prop := ∀ p q, V p → V q → plL p = plL q → samePl p q = true
structure PM (D : DataW Value) (M : List Pc) : Prop where
  im : Maps.IsMap D
  at_ : ∀ p ∈ M, ∀ z, D.atKey (plL p) z = .held (.agg (pcV p))
  has : ∀ kl, Maps.has D kl = true → ∃ p ∈ M, kl = plL p
theorem PM.start : PM (.map []) [] := ⟨Maps.isMap_empty, fun p h => (by cases h), fun kl h => (by simp [Maps.has_eq] at h)⟩
theorem PM.has_mem {D : DataW Value} {M : List Pc} (h : PM D M) {p : Pc} (hp : p ∈ M) : Maps.has D (plL p) = true := Maps.has_true_of_atKey (h.at_ p hp)
theorem PM.hit {D : DataW Value} {M : List Pc} (h : PM D M) {p q : Pc} (hq : q ∈ M) (hs : samePl q p = true) : Maps.has D (plL p) = true ∧ ∀ z, D.atKey (plL p) z = .held (.agg (pcV q)) := by
  rw [← plL_same hs]
  exact ⟨h.has_mem hq, h.at_ q hq⟩
theorem PM.miss {V : Pc → Prop} (hV : Pin V) {D : DataW Value} {M : List Pc} (h : PM D M) (hM : ∀ q ∈ M, V q) {p : Pc} (hp : V p) (hs : ∀ q ∈ M, samePl q p = false) : Maps.has D (plL p) = false := by
  cases hh : Maps.has D (plL p) with
  | false => rfl
  | true =>
    obtain ⟨q, hq, e⟩ := h.has _ hh
    have := hV q p (hM q hq) hp e.symm
    rw [hs q hq] at this
    cases this
theorem PM.put {V : Pc → Prop} (hV : Pin V) {D : DataW Value} {M : List Pc} (h : PM D M) (hM : ∀ q ∈ M, V q) (hS : SortP M) {p : Pc} (hp : V p) (hb : ∀ q ∈ M, samePl q p = true → better p q = true) :
    PM (D.put (plL p) (.held (.agg (pcV p)))) (insP p M) := by
  refine ⟨h.im.put _ _, fun x hx z => ?_, fun kl hkl => ?_⟩
  · rcases (mem_ins p hS x).1 hx with ⟨h1, h2⟩ | ⟨rfl, _⟩
    · have hne : plL x ≠ plL p := fun e => by
        have h3 := hV x p (hM x h1) hp e
        have h4 := hb x h1 h3
        rw [h2 h3] at h4
        cases h4
      rw [Maps.atKey_put_other hne]
      exact h.at_ x h1 z
    · exact Maps.atKey_put_same h.im (plL_key _) _ _
  · by_cases e : kl = plL p
    · exact ⟨p, (mem_ins p hS p).2 (.inr ⟨rfl, hb⟩), e⟩
    · rw [Maps.has_put_other e] at hkl
      obtain ⟨q, hq, rfl⟩ := h.has kl hkl
      exact ⟨q, (mem_ins p hS q).2 (.inl ⟨hq, fun hs => absurd (plL_same hs) e⟩), rfl⟩
theorem ins_stay {M : List Pc} (hS : SortP M) {p q : Pc} (hq : q ∈ M) (hs : samePl q p = true) (hb : better p q = false) : insP p M = M :=
  sort_uniq (ins_sorted p hS) hS fun x => by
    rw [mem_ins p hS x]
    constructor
    · rintro (⟨h, _⟩ | ⟨rfl, h⟩)
      · exact h
      · rw [h q hq hs] at hb; cases hb
    · intro hx
      refine .inl ⟨hx, fun hxs => ?_⟩
      have := sort_place hS hx hq (samePl_trans hxs (by rw [samePl_comm]; exact hs))
      rw [this]; exact hb
/-- what has come of the map so far -/
def Coll (M : List Pc) (left : Lit → Bool) (ss : List Pc) : Prop := ss.Nodup ∧ ∀ p, p ∈ ss ↔ (p ∈ M ∧ left (plL p) = false)
theorem Coll.start {D : DataW Value} {M : List Pc} (h : PM D M) : Coll M (Maps.has D) [] := ⟨List.nodup_nil, fun p => by
  constructor
  · intro h; cases h
  · rintro ⟨h1, h2⟩; rw [h.has_mem h1] at h2; cases h2⟩
theorem Coll.step {V : Pc → Prop} (hV : Pin V) {D : DataW Value} {M : List Pc} {left : Lit → Bool} {ss : List Pc} (hC : Coll M left ss) (h : PM D M) (hM : ∀ q ∈ M, V q) (hS : SortP M) {kl : Lit} {y : DataW Value} {v : Value}
    (hlk : left kl = true) (hv : y = .held v) (hat : ∀ z, D.atKey kl z = y) : ∃ p, p ∈ M ∧ v = .agg (pcV p) ∧ Coll M (fun z => left z && !z.sameKey kl) (ss ++ [p]) := by
  obtain ⟨p, hp, rfl⟩ := h.has kl (Maps.has_true_of_atKey hat)
  have h1 := h.at_ p hp .nil
  rw [hat, hv] at h1
  injection h1 with h1
  refine ⟨p, hp, h1, ?_, fun q => ?_⟩
  · rw [List.nodup_append]
    refine ⟨hC.1, by simp, fun a ha b hb e => ?_⟩
    rw [List.mem_singleton] at hb
    subst hb e
    have := ((hC.2 a).1 ha).2
    rw [hlk] at this
    cases this
  · rw [List.mem_append, List.mem_singleton, hC.2 q]
    constructor
    · rintro (⟨h2, h3⟩ | rfl)
      · exact ⟨h2, by simp [h3]⟩
      · exact ⟨hp, by simp [WideAt.sameKey_self (plL_key q)]⟩
    · rintro ⟨h2, h3⟩
      simp only [Bool.and_eq_false_iff, Bool.not_eq_false'] at h3
      rcases h3 with h3 | h3
      · exact .inl ⟨h2, h3⟩
      · right
        exact sort_place hS h2 hp (hV q p (hM q h2) (hM p hp) (WideAt.sameKey_eq h3))
theorem Coll.done {M : List Pc} {left : Lit → Bool} {ss : List Pc} (hC : Coll M left ss) (h : ∀ kl, left kl = false) : ss.Nodup ∧ ∀ p, p ∈ ss ↔ p ∈ M := ⟨hC.1, fun p => by rw [hC.2 p, h]; simp⟩
end Go.Proofs.Ytalfmcajghmkpaa
/- Merge's map: its keys; pieces of any world are its elements. -/
namespace Go.Proofs.Ytalfmcajghmkpaa
set_option maxRecDepth 100000
open Go.RowKit
set_option linter.unusedVariables false
set_option linter.unusedSimpArgs false
theorem laidOutP : laidOutB Try.prog = true := by kernel_rfl
theorem placeRow : (45 : TypeId) < Try.prog.types.size := of_decide_eq_true (by kernel_rfl)
theorem placeWide : (match Try.prog.underlying 45 with | some (.array _ _) | some (.struct _) => true | _ => false) = true := by rw [Try.underlying45]
theorem placeLaw : WideMaps.KeyLaw Try.prog 45 := deep_law_laid laidOutP (m := 2) (by omega) placeRow (by kernel_rfl) placeWide
theorem placeKeyed : Maps.Keyed Try.prog 45 := Maps.Keyed.of_law placeLaw
def plV (p : Pc) : Value := .agg #[.string p.s, .int .i64 p.t]
def PcIn (p : Pc) : Prop := p.s.size ≤ maxLen ∧ -9223372036854775808 ≤ p.t ∧ p.t ≤ 9223372036854775807
theorem place_key (p : Pc) (h : PcIn p) : keyOf Try.prog 45 (plV p) = some (plL p) := by
  obtain ⟨h1, h2, h3⟩ := h
  have hw : (Lit.int .i64 p.t).wf = true := WalkArith.wf_i64 ⟨h2, h3⟩
  have hkt : Try.prog.keyType 45 = true := by kernel_rfl
  obtain ⟨n, hn⟩ : ∃ n, Try.prog.types.size + 1 = n + 1 + 1 := ⟨Try.prog.types.size - 1, by have h : (45 : Nat) < Try.prog.types.size := placeRow; omega⟩
  have hc : Try.prog.cellsOf 45 = 2 := by kernel_rfl
  have hcs : Try.prog.cellsOf 9 = 1 := by kernel_rfl
  have hci : Try.prog.cellsOf 2 = 1 := by kernel_rfl
  unfold keyOf plV
  rw [Try.underlying45]
  simp only [hkt, Value.formed, Try.underlying45, hc, Value.cells, hn]
  simp [Program.keyLits, Try.underlying45, Try.underlying9, Try.underlying2, hc, hcs, hci, h1, hw, plL]
theorem place_pin : Pin PcIn := fun p q hp hq h => by
  have h1 := place_key p hp
  rw [h] at h1
  have h2 := placeLaw.inj h1 (place_key q hq)
  unfold plV at h2
  simp only [Value.agg.injEq] at h2
  rw [samePl_iff]
  have h3 : (#[Value.string p.s, .int .i64 p.t] : Array Value).toList = [.string q.s, .int .i64 q.t] := by rw [h2]
  simp at h3
  exact h3
/-- how an element reads: as itself -/
def asIs (v : Value) : Option (DataW Value × List MemPlace) := some (.held v, [])
/-- Merge's map in memory -/
def MapAt (w : World) (b n : Nat) (M : List Pc) : Prop := ∃ D : DataW Value, w.ownsMap Try.prog 45 asIs b n D ∧ PM D M ∧ SortP M ∧ ∀ q ∈ M, PcIn q
theorem MapAt.lt {w : World} {b n : Nat} {M : List Pc} (h : MapAt w b n M) : b < w.heap.size := by
  obtain ⟨D, h1, _⟩ := h
  exact h1.lt
theorem MapAt.made (w : World) : MapAt (w.alloc (.map #[] 0)) w.heap.size 0 [] := ⟨_, World.ownsMap_made w _ _ _, PM.start, List.Pairwise.nil, by simp⟩
theorem ownsMap_only {H : Type} {P : Program} {k : TypeId} {R : Value → Option (DataW H × List MemPlace)} {w w' : World} {b n : Nat} {D : DataW H} {S : Nat → Prop} (h : w.ownsMap P k R b n D) (ho : Only S w w') (hb : ¬ S b) : w'.ownsMap P k R b n D := by
  have hl := h.lt
  obtain ⟨es, clock, hb', r⟩ := h
  exact ⟨es, clock, (ho.block b hl hb).trans hb', r⟩
theorem MapAt.only {w w' : World} {b n : Nat} {M : List Pc} {S : Nat → Prop} (h : MapAt w b n M) (ho : Only S w w') (hb : ¬ S b) : MapAt w' b n M := by
  obtain ⟨D, h1, r⟩ := h
  exact ⟨D, ownsMap_only h1 ho hb, r⟩
theorem MapAt.next {w w' : World} {b n : Nat} {M : List Pc} (h : MapAt w b n M) (hb : Below w.heap.size w w') : MapAt w' b n M := h.only (S := fun _ => False) (Only.of_below hb) (fun h => h)
theorem MapAt.mono {w : World} {b n n' : Nat} {M : List Pc} (h : MapAt w b n M) (hn : n ≤ n') : MapAt w b n' M := by
  obtain ⟨D, h1, r⟩ := h
  exact ⟨D, h1.mono hn, r⟩
/-- a look-up: the piece that stands there, or none -/
theorem MapAt.look {w : World} {b n : Nat} {M : List Pc} (h : MapAt w b n M) {t : TypeId} (ht : Try.prog.underlying t = some (.map 45 27)) {p : Pc} (hp : PcIn p) :
    (∃ q, q ∈ M ∧ samePl q p = true ∧ (Instr.lookup t (.map (some b)) (plV p) true).run Try.prog w = .ok (.tuple #[.agg (pcV q), .bool true]) w) ∨
    ((∀ q ∈ M, samePl q p = false) ∧ (Instr.lookup t (.map (some b)) (plV p) true).run Try.prog w = .ok (.tuple #[.agg zPc, .bool false]) w) := by
  obtain ⟨D, h1, h2, h3, h4⟩ := h
  obtain ⟨v, ps, hrun, hv⟩ := h1.look_ok placeKeyed ht (zero_pc w) (zd := .held (.agg zPc)) (zp := []) rfl (place_key p hp)
  simp only [asIs, Option.some.injEq, Prod.mk.injEq] at hv
  by_cases hm : ∃ q ∈ M, samePl q p = true
  · obtain ⟨q, hq, hs⟩ := hm
    obtain ⟨h5, h6⟩ := h2.hit hq hs
    rw [h6] at hv
    have h7 := hv.1
    injection h7 with h7
    rw [h5, h7] at hrun
    exact .inl ⟨q, hq, hs, hrun⟩
  · have hm' : ∀ q ∈ M, samePl q p = false := fun q hq => by
      cases hs : samePl q p with
      | false => rfl
      | true => exact absurd ⟨q, hq, hs⟩ hm
    have h5 := h2.miss place_pin h4 hp hm'
    rw [Maps.atKey_of_not_has h5] at hv
    have h7 := hv.1
    injection h7 with h7
    rw [h5, h7] at hrun
    exact .inr ⟨hm', hrun⟩
/-- a store of a piece that counts -/
theorem MapAt.store {w : World} {b n : Nat} {M : List Pc} (h : MapAt w b n M) {t : TypeId} (ht : Try.prog.underlying t = some (.map 45 27)) (hn : n < maxLen) {p : Pc} (hp : PcIn p) (hb : ∀ q ∈ M, samePl q p = true → better p q = true) :
    ∃ w', (Instr.mapUpdate t (.map (some b)) (plV p) (.agg (pcV p))).run Try.prog w = .ok () w' ∧ MapAt w' b (n + 1) (insP p M) ∧ w.grownBy w' (some b) := by
  obtain ⟨D, h1, h2, h3, h4⟩ := h
  obtain ⟨w', hrun, h5, h6⟩ := h1.store placeKeyed ht hn (place_key p hp) (d := .held (.agg (pcV p))) (ps := []) rfl
  refine ⟨w', hrun, ⟨_, h5, h2.put place_pin h4 h3 hp hb, ins_sorted p h3, fun q hq => ?_⟩, h6.grown⟩
  rcases ins_mem p M q hq with rfl | hq
  · exact hp
  · exact h4 q hq
end Go.Proofs.Ytalfmcajghmkpaa
/- Plain: what is laid is as long whatever the values. -/
namespace Go.Proofs.Ytalfmcajghmkpaa
set_option maxRecDepth 100000
def noV (p : Pc) : Pc := ⟨p.s, p.t, 0, p.n, p.d⟩
theorem run1_noV (s : ByteArray) : ∀ l : List Pc, run1 s (l.map noV) = run1 s l
  | [] => rfl
  | p :: l => by
    rw [List.map_cons, run1, run1, run1_noV s l]
    rfl
theorem gls_noV : ∀ l : List Pc, gls (l.map noV) = gls l := grps_ind (by rfl) fun p l ih => by
  rw [List.map_cons, gls_cons, gls_cons, show (noV p).s = p.s from rfl, run1_noV, ← List.map_drop, ih]
theorem cutsL_map (f : Pc → Pc) : ∀ (ns : List Nat) (l : List Pc), cutsL ns (l.map f) = (cutsL ns l).map (·.map f)
  | [], _ => rfl
  | n :: ns, l => by
    rw [cutsL, cutsL, List.map_cons, ← List.map_take, ← List.map_drop, cutsL_map f ns]
theorem roomG_noV : ∀ gs : List (List Pc), roomG (gs.map (·.map noV)) = roomG gs
  | [] => rfl
  | g :: gs => by
    simp only [List.map_cons, roomG, roomG_noV gs]
    cases g <;> rfl
theorem roomL_noV (l : List Pc) : roomL (l.map noV) = roomL l := by
  unfold roomL grps
  rw [gls_noV, cutsL_map, roomG_noV, List.length_map]
theorem okAt_noV (l : List Pc) (i : Nat) : okAt (l.map noV) i = okAt l i := by
  have h : ∀ j, (l.map noV).getD j pc0 = noV (l.getD j pc0) := fun j => by
    simp only [List.getD_eq_getElem?_getD, List.getElem?_map]
    cases l[j]? <;> rfl
  unfold okAt
  rw [h, h]
  rfl
theorem chkL_noV (l : List Pc) : chkL (l.map noV) = chkL l := by
  unfold chkL
  rw [roomL_noV, List.length_map]
  have h : okTo (l.map noV) l.length = okTo l l.length := by
    unfold okTo
    congr 1
    funext i
    exact okAt_noV l i
  rw [h]
theorem chkL_like {l m : List Pc} (h : l.map noV = m.map noV) : chkL l = chkL m := by rw [← chkL_noV l, h, chkL_noV]
theorem roomL_like {l m : List Pc} (h : l.map noV = m.map noV) : roomL l = roomL m := by rw [← roomL_noV l, h, roomL_noV]
theorem layL_like {l m : List Pc} (h : l.map noV = m.map noV) (h0 : chkL l = 0) (hl : ∀ p ∈ l, PcOk p) (hm : ∀ p ∈ m, PcOk p) : (layL l).length = (layL m).length := by
  rw [layL_len h0 hl, layL_len ((chkL_like h).symm.trans h0) hm, roomL_like h]
/-- the first k values are other ones -/
def vset : List Int → List Pc → Nat → List Pc
  | _, l, 0 => l
  | _, [], _ => []
  | [], l, _ => l
  | v :: vs, p :: l, k + 1 => ⟨p.s, p.t, v, p.n, p.d⟩ :: vset vs l k
theorem vset_cons (v : Int) (vs : List Int) (p : Pc) (l : List Pc) (k : Nat) : vset (v :: vs) (p :: l) (k + 1) = ⟨p.s, p.t, v, p.n, p.d⟩ :: vset vs l k := by rw [vset]
theorem vset_zero (vs : List Int) (l : List Pc) : vset vs l 0 = l := by cases vs <;> cases l <;> rfl
theorem vset_noV : ∀ (vs : List Int) (l : List Pc) (k : Nat), (vset vs l k).map noV = l.map noV
  | vs, l, 0 => by rw [vset_zero]
  | vs, [], k + 1 => by cases vs <;> rfl
  | [], p :: l, k + 1 => rfl
  | v :: vs, p :: l, k + 1 => by rw [vset, List.map_cons, List.map_cons, vset_noV vs l k]; rfl
theorem vset_len (vs : List Int) (l : List Pc) (k : Nat) : (vset vs l k).length = l.length := by
  have h := congrArg List.length (vset_noV vs l k)
  simpa using h
theorem vset_succ : ∀ (vs : List Int) (l : List Pc) (k : Nat) (_ : k < vs.length) (_ : k < l.length), vset vs l (k + 1) = (vset vs l k).set k ⟨(l.getD k pc0).s, (l.getD k pc0).t, vs.getD k 0, (l.getD k pc0).n, (l.getD k pc0).d⟩
  | [], _, _, h, _ => by simp at h
  | _ :: _, [], _, _, h => by simp at h
  | v :: vs, p :: l, 0, _, _ => by
    rw [vset_zero, vset_cons, vset_zero]; rfl
  | v :: vs, p :: l, k + 1, h, h2 => by
    rw [vset, vset, vset_succ vs l k (by simpa using h) (by simpa using h2)]
    rfl
theorem vset_at (vs : List Int) (l : List Pc) (k : Nat) (h : k < l.length) : ∀ (j : Nat), j ≤ k → (vset vs l j).getD k pc0 = l.getD k pc0 := by
  intro j hj
  induction j generalizing vs l k with
  | zero => rw [vset_zero]
  | succ j ih =>
    cases vs with
    | nil => cases l <;> rfl
    | cons v vs =>
      cases l with
      | nil => rfl
      | cons p l =>
        obtain ⟨k, rfl⟩ : ∃ k', k = k' + 1 := ⟨k - 1, by omega⟩
        rw [vset]
        exact ih vs l k (by simpa using h) (by omega)
theorem vset_ok {vs : List Int} (hv : ∀ v ∈ vs, -9223372036854775808 ≤ v ∧ v ≤ 9223372036854775807) {n : Nat} : ∀ {l : List Pc} (k : Nat) (_ : ∀ p ∈ l, PcOk p ∧ p.s.size ≤ n), ∀ p ∈ vset vs l k, PcOk p ∧ p.s.size ≤ n := by
  induction vs with
  | nil => intro l k h; cases k <;> cases l <;> exact h
  | cons v vs ih =>
    intro l k h
    cases k with
    | zero => rw [vset_zero]; exact h
    | succ k =>
      cases l with
      | nil => exact h
      | cons p l =>
        intro q hq
        rw [vset] at hq
        rcases List.mem_cons.1 hq with rfl | hq
        · have h1 := h p (List.mem_cons_self ..)
          have h2 := hv v (List.mem_cons_self ..)
          exact ⟨⟨h1.1.t0, h1.1.t1, h2.1, h2.2, h1.1.n1, h1.1.d1⟩, h1.2⟩
        · exact ih (fun v hv' => hv v (List.mem_cons_of_mem _ hv')) k (fun p hp => h p (List.mem_cons_of_mem _ hp)) q hq
end Go.Proofs.Ytalfmcajghmkpaa
/- Contracts: numbers laid and read. -/
namespace Go.Proofs.Ytalfmcajghmkpaa
set_option maxRecDepth 100000
open Go.RowKit
set_option linter.unusedVariables false
set_option linter.unusedSimpArgs false
theorem div_pow_succ (n k : Nat) : n / 256 ^ k / 256 = n / 256 ^ (k + 1) := by rw [Nat.div_div_eq_div_mul, ← Nat.pow_succ]
theorem div_pow_lt (n k : Nat) (h : n < 2 ^ 64) : n / 256 ^ k < 2 ^ 64 := Nat.lt_of_le_of_lt (Nat.div_le_self _ _) h
/-- what num.Put lays behind -/
def tailOf (n : Nat) (wd : Int) : List Nat := if 8 < wd then [] else form n wd.toNat
/-- num.Get's error -/
def getErr (len : Nat) (wd : Int) : Int := if wd < 1 ∨ 8 < wd then 1 else if (len : Int) < wd then 2 else 0
def getNum (l : List Nat) (wd : Int) : Nat := if getErr l.length wd = 0 then number (l.take wd.toNat) else 0
theorem or_low (a c : Nat) (ha : a < 72057594037927936) (hc : c < 256) : Go.bits BinOp.or IntKind.u64 ((a : Int) * 256) (c : Int) = ((a * 256 + c : Nat) : Int) := by
  have e : (a : Int) * 256 = ((a * 256 : Nat) : Int) := by omega
  rw [e, u64_or_nat _ _ (by omega) (by omega), show a * 256 = 2 ^ 8 * a by omega, Nat.two_pow_add_eq_or_of_lt (i := 8) hc a]
end Go.Proofs.Ytalfmcajghmkpaa
/- Contracts: short forms, zigzags. -/
namespace Go.Proofs.Ytalfmcajghmkpaa
set_option maxRecDepth 100000
open Go.RowKit
set_option linter.unusedVariables false
set_option linter.unusedSimpArgs false
/-- the first j bytes of a short form that goes on -/
def shortTo (n j : Nat) : List Nat := (List.range j).map fun i => n / 128 ^ i % 128 + 128
theorem shortTo_succ (n j : Nat) : shortTo n (j + 1) = shortTo n j ++ [n / 128 ^ j % 128 + 128] := by simp [shortTo, List.range_succ]
theorem shortTo_len (n j : Nat) : (shortTo n j).length = j := by simp [shortTo]
def ShortGives (l : List Nat) (n : Nat) (w : World) (e : Ending) (w' : World) : Prop :=
  ∃ j, (∀ i, i < j → 128 ≤ n / 128 ^ i) ∧ n / 128 ^ j < 128 ∧ Gives (l ++ shortTo n j ++ [n / 128 ^ j]) w e w'
theorem or128 (x : Nat) : Go.bits BinOp.or IntKind.u8 ((x : Int) % 256) 128 = ((x % 128 + 128 : Nat) : Int) := by
  have h : ∀ y, y < 256 → Go.bits BinOp.or IntKind.u8 ((y : Nat) : Int) 128 = ((y % 128 + 128 : Nat) : Int) := by decide +kernel
  have := h (x % 256) (Nat.mod_lt _ (by decide))
  rw [show ((x % 256 : Nat) : Int) = (x : Int) % 256 by omega, show x % 256 % 128 = x % 128 by omega] at this
  exact this
theorem div128_succ (n k : Nat) : n / 128 ^ k / 128 = n / 128 ^ (k + 1) := by rw [Nat.div_div_eq_div_mul, ← Nat.pow_succ]
theorem short_bound (n j : Nat) (hn : n < 2 ^ 64) (h : ∀ i, i < j → 128 ≤ n / 128 ^ i) : j ≤ 9 := by
  rcases Nat.lt_or_ge 9 j with hj | hj
  · have h9 := h 9 hj
    have : n / 128 ^ 9 < 128 := by
      rw [Nat.div_lt_iff_lt_mul (by decide)]
      exact Nat.lt_of_lt_of_le hn (by decide)
    omega
  · exact hj
theorem sh_shortTo (n : Nat) : ∀ j, (∀ i, i < j → 128 ≤ n / 128 ^ i) → n / 128 ^ j < 128 → shortTo n j ++ [n / 128 ^ j] = sh n := by
  induction n using Nat.strongRecOn with
  | ind n ih =>
    intro j h1 h2
    cases j with
    | zero =>
      rw [sh, dif_pos (by simpa using h2)]
      simp [shortTo]
    | succ j =>
      have h0 : 128 ≤ n := by simpa using h1 0 (by omega)
      rw [sh, dif_neg (by omega)]
      have e := ih (n / 128) (by omega) j (fun i hi => by have := h1 (i + 1) (by omega); rwa [Nat.pow_succ, Nat.mul_comm, ← Nat.div_div_eq_div_mul] at this) (by rwa [Nat.pow_succ, Nat.mul_comm, ← Nat.div_div_eq_div_mul] at h2)
      rw [← e, Nat.pow_succ, Nat.mul_comm, ← Nat.div_div_eq_div_mul]
      unfold shortTo
      rw [List.range_succ_eq_map, List.map_cons, List.map_map]
      simp only [Nat.pow_zero, Nat.div_one, List.cons_append, List.cons.injEq, true_and]
      congr 1
      apply List.map_congr_left
      intro i _
      simp only [Function.comp, Nat.succ_eq_add_one]
      rw [Nat.pow_succ, Nat.mul_comm, ← Nat.div_div_eq_div_mul]
end Go.Proofs.Ytalfmcajghmkpaa
/- Contracts: zigzags. -/
namespace Go.Proofs.Ytalfmcajghmkpaa
set_option maxRecDepth 100000
open Go.RowKit
set_option linter.unusedVariables false
set_option linter.unusedSimpArgs false
theorem wrapU (x : Int) : IntKind.u64.wrap x = x % 18446744073709551616 := by simp [IntKind.wrap, IntKind.signed, IntKind.bits]
theorem xor_ones (a : Nat) (ha : a < 18446744073709551616) : a ^^^ 18446744073709551615 = 18446744073709551615 - a := by
  have h := BitVec.xor_allOnes (x := BitVec.ofNat 64 a)
  have h2 := congrArg BitVec.toNat h
  rw [BitVec.toNat_xor, BitVec.toNat_not, BitVec.toNat_ofNat, BitVec.toNat_allOnes, Nat.mod_eq_of_lt (by simpa using ha)] at h2
  simpa using h2
theorem zig_pos (n : Int) (h0 : 0 ≤ n) (h1 : n ≤ 9223372036854775807) : bits BinOp.xor IntKind.u64 (n * 2) (n / 9223372036854775808) = (zig n : Nat) := by
  rw [u64_xor _ _ (by omega) (by omega) (by omega) (by omega), show (n / 9223372036854775808).toNat = 0 by omega, Nat.xor_zero]
  unfold zig
  rw [if_pos h0]
  congr 2
  omega
theorem zig_neg (n : Int) (h0 : n < 0) (h1 : -9223372036854775808 ≤ n) : bits BinOp.xor IntKind.u64 (IntKind.u64.wrap (IntKind.u64.wrap n * 2)) (IntKind.u64.wrap (n / 9223372036854775808)) = (zig n : Nat) := by
  have e1 : IntKind.u64.wrap (IntKind.u64.wrap n * 2) = n * 2 + 18446744073709551616 := by
    rw [wrapU, wrapU]
    omega
  have e2 : IntKind.u64.wrap (n / 9223372036854775808) = 18446744073709551615 := by
    rw [show n / 9223372036854775808 = -1 by omega]
    rfl
  rw [e1, e2, u64_xor _ _ (by omega) (by omega) (by omega) (by omega), show (18446744073709551615 : Int).toNat = 18446744073709551615 from rfl, xor_ones _ (by omega)]
  unfold zig
  rw [if_neg (by omega)]
  congr 1
  omega
theorem zag_even (n : Nat) (h : n % 2 = 0) (h1 : n < 18446744073709551616) : bits BinOp.xor IntKind.i64 ((n : Int) / 2) (wrap64 (-wrap64 (bits BinOp.and IntKind.u64 (n : Int) 1))) = zag n := by
  have e : bits BinOp.and IntKind.u64 (n : Int) 1 = 0 := by
    have h2 := u64_and_nat n 1 h1 (by decide)
    rw [show ((1 : Nat) : Int) = 1 from rfl] at h2
    rw [h2, Nat.and_one_is_mod, h]
    rfl
  rw [e]
  unfold zag
  rw [if_pos h]
  rw [show wrap64 (-wrap64 0) = 0 by simp [wrap64]]
  obtain ⟨m, hm⟩ : ∃ m : Nat, m = n / 2 := ⟨_, rfl⟩
  rw [show (n : Int) / 2 = (m : Int) by omega, ← hm]
  show IntKind.i64.wrap ((BitVec.ofInt 64 (m : Int) ^^^ BitVec.ofInt 64 0).toNat : Nat) = _
  rw [show BitVec.ofInt 64 0 = 0#64 from rfl, BitVec.xor_zero, BitVec.toNat_ofInt, IntKind.wrap_i64]
  omega
theorem zag_odd (n : Nat) (h : n % 2 = 1) (h1 : n < 18446744073709551616) : bits BinOp.xor IntKind.i64 ((n : Int) / 2) (wrap64 (-wrap64 (bits BinOp.and IntKind.u64 (n : Int) 1))) = zag n := by
  have e : bits BinOp.and IntKind.u64 (n : Int) 1 = 1 := by
    have h2 := u64_and_nat n 1 h1 (by decide)
    rw [show ((1 : Nat) : Int) = 1 from rfl] at h2
    rw [h2, Nat.and_one_is_mod, h]
    rfl
  rw [e]
  unfold zag
  rw [if_neg (by omega)]
  rw [show wrap64 (-wrap64 1) = -1 by simp [wrap64]]
  obtain ⟨m, hm⟩ : ∃ m : Nat, m = n / 2 := ⟨_, rfl⟩
  rw [show (n : Int) / 2 = (m : Int) by omega, ← hm]
  show IntKind.i64.wrap ((BitVec.ofInt 64 (m : Int) ^^^ BitVec.ofInt 64 (-1)).toNat : Nat) = _
  rw [show BitVec.ofInt 64 (-1) = BitVec.allOnes 64 from rfl, BitVec.xor_allOnes, BitVec.toNat_not, BitVec.toNat_ofInt, IntKind.wrap_i64]
  omega
theorem rzig_neg (n : Int) (h0 : n < 0) (h1 : -9223372036854775808 ≤ n) : IntKind.u64.wrap (IntKind.u64.wrap (IntKind.u64.wrap (-IntKind.u64.wrap n) * 2) - 1) = (zig n : Nat) := by
  unfold zig
  rw [if_neg (by omega)]
  rw [wrapU, wrapU, wrapU, wrapU]
  omega
end Go.Proofs.Ytalfmcajghmkpaa
/- Contract: short forms, by the document. -/
namespace Go.Proofs.Ytalfmcajghmkpaa
set_option maxRecDepth 100000
open Go.RowKit
set_option linter.unusedVariables false
set_option linter.unusedSimpArgs false
end Go.Proofs.Ytalfmcajghmkpaa
/- Contract: a short form that is read. -/
namespace Go.Proofs.Ytalfmcajghmkpaa
set_option maxRecDepth 100000
open Go.RowKit
set_option linter.unusedVariables false
set_option linter.unusedSimpArgs false
theorem rd_cellP {w : World} {B : Nat} {ad : Addr} {l : List Nat} (h : Rd w B (some ad) (byt l)) (i : Nat) (hi : i < l.length) : w.cell? (ad.add i) = some (.int .u8 (l.getD i 0 : Nat)) := by
  obtain ⟨a1, e1, _, hc⟩ := h.byte hi
  injection e1 with e1
  subst e1
  exact hc
end Go.Proofs.Ytalfmcajghmkpaa
/- Contract: the pieces of a series are laid. -/
namespace Go.Proofs.Ytalfmcajghmkpaa
set_option maxRecDepth 100000
open Go.RowKit
set_option linter.unusedVariables false
set_option linter.unusedSimpArgs false
section
variable {P : Program} {ops : Array Oper} {Z : World} {ls : List Tmp} {V : Tmp → Value → World → Prop} {Q : Act → Prop} {rest : List Oper} {o : Oper} {b : Act}
theorem wpLoud_valDP (d : Tmp) (hd : o.dst = some d) (hw : Region.wanted o (yielded ops b.tmps) = true) (hq : quietB ops ls o = true) (hsel : ∀ cs t, o.op ≠ .select cs t) (v : Value) (hr : ∀ x : Ext Z, (execOp b.eval o).run P x.wd = .ok (.value v) x.wd)
    (b' : Act) (hb : b.put o.dst v = b') (h : wpLoud P ops Z ls V Q rest b') : wpLoud P ops Z ls V Q (o :: rest) b := wpLoud_val hw hq hsel v hr b' hb h
end
theorem OwnB.rdAtP {w : World} {base : Nat} {A : Option Addr} {n c : Nat} {l : List Nat} (h : OwnB w base (.slice A n c) l) : Rd w w.heap.size A (byt l) := by
  obtain ⟨A', c', e, _, _, h3⟩ := h.rd
  injection e with e1 e2 e3
  rw [e1]; exact h3
theorem tailOf2P (n : Nat) : tailOf n 2 = form n 2 := rfl
theorem strCells_sby (s : ByteArray) : Lib.strCells s = byt (sby s) := by
  unfold Lib.strCells byt sby
  cases s with
  | mk d => rw [ByteArray.toList_mk, List.map_map]; rfl
theorem own_str {w5 : World} {base : Nat} {v5 : Value} {l : List Nat} {s : ByteArray} (h : w5.ownsRow base 5 1 v5 (l.length + s.size) (byt l ++ Lib.strCells s)) : OwnB w5 base v5 (l ++ sby s) := by
  unfold OwnB
  rw [List.length_append, sby_len, ← byt_app, ← strCells_sby]
  exact h
theorem below_grown {w w' : World} {base : Nat} {v : Value} {l : List Nat} (h : OwnB w base v l) (hg : w.grownBy w' v.ownBlock) (hb : base ≤ w.heap.size) : Below base w w' :=
  (Below.refl _ _).grown hg hb (fun k hk => own_base h k hk)
theorem wrap_w (x : Int) : wrap64 x = w64 x := by unfold wrap64 w64; rfl
/-- a row, and then the others -/
theorem rows_cons (t step v : Int) (p : Pc) (l : List Pc) : rowsL t step v (p :: l) = (((sh (zig (wrap64 (wrap64 (p.t - t) - step))) ++ sh (zig (wrap64 (p.v - v)))) ++ sh p.n) ++ form p.d 2) ++ rowsL p.t (wrap64 (p.t - t)) p.v l := by simp only [wrap_w]; rfl
theorem wrap64_lo (x : Int) : -9223372036854775808 ≤ wrap64 x := by rw [wrap_w]; exact w64_lo x
theorem wrap64_hi (x : Int) : wrap64 x ≤ 9223372036854775807 := by rw [wrap_w]; exact w64_hi x
theorem idle2 {x y : Value} (h1 : isTok x = false) (h2 : isTok y = false) : (!isTok x && (!isTok y && true)) = true := by rw [h1, h2]; rfl
structure PcBlk (W : World) (g : Nat) (p : Pc) : Prop where
  b : Blk W g 27 (pcV p)
theorem PcBlk.next {W W' : World} {g : Nat} {p : Pc} (h : PcBlk W g p) (hb : Below W.heap.size W W') : PcBlk W' g p := ⟨h.b.below hb h.b.lt⟩
theorem PcBlk.c1 {W : World} {g : Nat} {p : Pc} (h : PcBlk W g p) : W.cell? ⟨g, 1, none⟩ = some (.int .i64 p.t) := (h.b.cell 1).trans rfl
theorem PcBlk.c2 {W : World} {g : Nat} {p : Pc} (h : PcBlk W g p) : W.cell? ⟨g, 2, none⟩ = some (.int .i64 p.v) := (h.b.cell 2).trans rfl
theorem PcBlk.c3 {W : World} {g : Nat} {p : Pc} (h : PcBlk W g p) : W.cell? ⟨g, 3, none⟩ = some (.int .u64 (p.n : Int)) := (h.b.cell 3).trans rfl
theorem PcBlk.c4 {W : World} {g : Nat} {p : Pc} (h : PcBlk W g p) : W.cell? ⟨g, 4, none⟩ = some (.int .u16 (p.d : Int)) := (h.b.cell 4).trans rfl
end Go.Proofs.Ytalfmcajghmkpaa
/- Contract: the form of pieces. -/
namespace Go.Proofs.Ytalfmcajghmkpaa
set_option maxRecDepth 100000
open Go.RowKit
set_option linter.unusedVariables false
set_option linter.unusedSimpArgs false
theorem gls_len_le : ∀ l : List Pc, (gls l).length ≤ l.length := grps_ind (by rw [gls_nil]; exact Nat.le_refl _) fun p l ih => by
  rw [gls_cons, List.length_cons, List.length_cons]
  rw [List.length_drop] at ih
  omega
theorem AtA.drop_ {w : World} {ad : Addr} {l : List Pc} (h : AtA w ad (pcs l)) (off m : Nat) : AtA w (ad.add (off * 5)) (pcs ((l.drop off).take m)) := by
  rw [pcs_take, pcs_drop]
  exact h.drop (off * 5) (m * 5)
end Go.Proofs.Ytalfmcajghmkpaa
/- append of zeros (gc's append-of-make) onto a row of the call's own. -/
namespace Go.Proofs.Ytalfmcajghmkpaa
set_option maxRecDepth 100000
open Go.RowKit
set_option linter.unusedVariables false
set_option linter.unusedSimpArgs false
section
variable {P : Program} (w : World)
theorem run_room_zeros (t tn ty e : TypeId) (i : TypeInfo) (z : Value) (kn kq : IntKind) (ht : P.underlying t = some (.slice e)) (htn : P.underlying tn = some (.int kn)) (hi : P.info? e = some i) (hz : i.zero = some z) (hs : i.size = 1) (hzs : z.cells.size = 1)
    (g sLen sCap : Nat) (cur : Array Value) (hg : w.heap[g]? = some (.cells cur e (0, 0)))
    (m : Nat) (h0 : 0 < m) (hm : m ≤ 1000000000) (hb : i.bytes ≤ 1000) (news : List Value) (hn : (Builtin.zeroCells z.cells m).toList = news) (h1 : ∀ u ∈ news, u.oneCell' = true)
    (hroom : sLen + m ≤ sCap) (hfit : sLen + m ≤ cur.size) :
    (Builtin.append_ #[t, tn] ty #[.slice (some ⟨g, 0, none⟩) sLen sCap, .int kq m]).run P w =
      .ok (.slice (some ⟨g, 0, none⟩) (sLen + m) sCap) (w.setRow g (cur.toList.take sLen ++ news ++ cur.toList.drop (sLen + news.length)).toArray) := by
  have hnl : news.length = m := by rw [← hn, Array.length_toList]; simp [Builtin.zeroCells, hzs]
  have hst := run_storeCells_at P g sLen e news 0 cur w hg (by rw [hnl]; simpa using hfit) h1
  simp only [Nat.add_zero] at hst
  have hw : IntKind.i64.wrap (m : Int) = m := by rw [IntKind.wrap_i64]; omega
  have hneg : ¬ ((m : Int) < 0) := by omega
  have h48i : ¬ (281474976710656 < (m : Int) * (i.bytes : Int)) := by
    have : (m : Int) * (i.bytes : Int) ≤ 1000000000 * 1000 := by
      rw [← Int.natCast_mul]
      have := Nat.mul_le_mul hm hb
      omega
    omega
  have hmz : m ≠ 0 := by omega
  simp [Builtin.append_, run_underlying ht, run_underlying htn, sizeOf, typeInfo, zeroValue, hi, hz, hs, asInt, asIntOf, hw, hneg, h48i, hroom, hmz, Addr.add_lit, hn, hst]
theorem run_app_zeros (base : Nat) (t tn ty e : TypeId) (i : TypeInfo) (z : Value) (kn kq : IntKind) (ht : P.underlying t = some (.slice e)) (htn : P.underlying tn = some (.int kn)) (hi : P.info? e = some i) (hz : i.zero = some z) (hs : i.size = 1) (hzs : z.cells.size = 1) (hby : i.bytes = 1)
    (v : Value) (n : Nat) (xs : List Value) (hown : w.ownsRow base e 1 v n xs) (m : Nat) (hm : n + m ≤ 1000000000) (news : List Value) (hn : (Builtin.zeroCells z.cells m).toList = news) (h1 : ∀ u ∈ news, u.oneCell' = true) (hbase : base ≤ w.heap.size) :
    ∃ v' w', (Builtin.append_ #[t, tn] ty #[v, .int kq m]).run P w = .ok v' w' ∧ Apped w base e 1 v w' v' (n + m) (xs ++ news) := by
  have hnl : news.length = m := by rw [← hn, Array.length_toList]; simp [Builtin.zeroCells, hzs]
  have h63 : n + m ≤ maxLen := by simp only [maxLen]; omega
  have hlen : (xs ++ news).length = (n + m) * 1 := by rw [List.length_append, hown.1, hnl]; omega
  have hw : IntKind.i64.wrap (m : Int) = m := by rw [IntKind.wrap_i64]; omega
  have hna : (Builtin.zeroCells z.cells m) = news.toArray := by rw [← hn, Array.toArray_toList]
  have grown : ∀ (old : Nat), old < n + m → ∀ (row : Option Nat),
      (w.drew.alloc (.cells (xs.toArray ++ Builtin.zeroCells z.cells m ++ Builtin.zeroCells z.cells (grownCap w (n + m) old e - (n + m))) e)).ownsRow base e 1
        (.slice (some ⟨w.heap.size, 0, none⟩) (n + m) (grownCap w (n + m) old e)) (n + m) (xs ++ news) ∧
      w.grownBy (w.drew.alloc (.cells (xs.toArray ++ Builtin.zeroCells z.cells m ++ Builtin.zeroCells z.cells (grownCap w (n + m) old e - (n + m))) e)) row := by
    intro old ho row
    have hge := grownCap_ge w (n + m) old e
    have hcm : grownCap w (n + m) old e ≤ maxLen := grownCap_le_maxLen w (n + m) old e h63
    rw [hna]
    refine ⟨⟨hlen, .inr ⟨w.heap.size, _, _, rfl, hbase, heap_alloc_new w.drew _, hge, hcm, ?_, ?_⟩⟩, ⟨rfl, rfl, rfl, by simp, fun k hk _ => heap_alloc_old _ _ hk⟩⟩
    · simp only [Array.size_append, List.size_toArray, size_zeroCells, hzs, hown.1, hnl]
      omega
    · simp only [Array.toList_append, List.append_assoc]
      rw [← List.append_assoc, ← hlen]
      exact List.take_left
  rcases Nat.eq_zero_or_pos m with hm0 | hm0
  · subst hm0
    obtain rfl : news = [] := List.eq_nil_of_length_eq_zero hnl
    refine ⟨v, w, ?_, ⟨by simpa using hown, World.grownBy.refl w _, .inl rfl⟩⟩
    rcases hown.2 with ⟨rfl, rfl⟩ | ⟨g, cap, cur, rfl, hbg, hg, hnc, hcm, hcs, htake⟩
    · simp [Builtin.append_, run_underlying ht, run_underlying htn, sizeOf, typeInfo, hi, asInt, asIntOf, IntKind.wrap_i64]
    · simp [Builtin.append_, run_underlying ht, run_underlying htn, sizeOf, typeInfo, hi, asInt, asIntOf, IntKind.wrap_i64, hnc, storeCells]
  · rcases hown.2 with ⟨rfl, rfl⟩ | ⟨g, cap, cur, rfl, hbg, hg, hnc, hcm, hcs, htake⟩
    · obtain rfl : xs = [] := List.eq_nil_of_length_eq_zero (by simpa using hown.1)
      have hr := Lib.run_append_nil_zeros (P := P) w t tn ty e i z kq kn ht htn hi hz m hm0 (by omega) (by omega) (by rw [hby]; omega)
      have hgr := grown 0 (by omega) (Value.ownBlock (.slice none 0 0))
      simp only [Nat.zero_add, List.nil_append, Array.empty_append] at hgr ⊢
      exact ⟨_, _, hr, hgr.1, hgr.2, Or.inr rfl⟩
    · by_cases hroom : n + m ≤ cap
      · have hr := run_room_zeros (P := P) w t tn ty e i z kn kq ht htn hi hz hs hzs g n cap cur hg m hm0 (by omega) (by omega) news hn h1 hroom (by omega)
        refine ⟨_, _, hr, ⟨hlen, .inr ⟨g, cap, _, rfl, hbg, setRow_heap w g cur _ e _ hg, hroom, hcm, ?_, ?_⟩⟩, ⟨rfl, rfl, rfl, by simp, fun k _ hk => setRow_other w g k _ (fun e => hk (by simp [Value.ownBlock, e]))⟩, Or.inl rfl⟩
        · simp only [List.size_toArray, List.length_append, List.length_take, List.length_drop, Array.length_toList]
          omega
        · rw [Nat.mul_one] at htake
          rw [htake, ← hlen]
          exact List.take_left
      · have holds : ∀ j u, xs[j]? = some u → w.cell? ((⟨g, 0, none⟩ : Addr).add j) = some u := hown.cells (g := g) rfl
        have hold := run_firstCells_some (P := P) w.drew i.size n ⟨g, 0, none⟩ n cap xs (by rw [hs]; exact hown.1) (by simpa using holds)
        have hr := Lib.run_append_grow_zeros (P := P) w t tn ty e i z kq kn ht htn hi hz (some ⟨g, 0, none⟩) n cap xs hold m hm0 (by omega) (by omega) (by omega) (by rw [hby]; omega) (growslice_fits (by omega) (by rw [hby]; omega))
        have hgr := grown cap (by omega) (Value.ownBlock (.slice (some ⟨g, 0, none⟩) n cap))
        exact ⟨_, _, hr, hgr.1, hgr.2, Or.inr rfl⟩
end
theorem zero_bytes (n : Nat) : (Builtin.zeroCells (Value.int .u8 0).cells n).toList = byt (List.replicate n 0) := by
  unfold Builtin.zeroCells
  simp only [Value.cells, byt, Array.toList_map, Array.toList_range, List.map_replicate]
  apply List.ext_getElem
  · simp
  · intro i h1 h2
    simp [Nat.mod_one]
end Go.Proofs.Ytalfmcajghmkpaa
/- Contract: delta.Lay. -/
namespace Go.Proofs.Ytalfmcajghmkpaa
set_option maxRecDepth 100000
open Go.RowKit
set_option linter.unusedVariables false
set_option linter.unusedSimpArgs false
/-- what Lay gives -/
def layR (l : List Pc) : List Nat := if chkL l = 0 then layL l else []
theorem Rd.ups {w : World} {B B' : Nat} {A : Option Addr} {xs : List Value} (h : Rd w B A xs) (hB : B ≤ B') : Rd w B' A xs := fun hn => by
  obtain ⟨ad, e, h1, h2⟩ := h hn
  exact ⟨ad, e, Nat.lt_of_lt_of_le h1 hB, h2⟩
theorem RdP.next {w w' : World} {A : Option Addr} {l : List Pc} (h : RdP w w.heap.size A l) (hb : Below w.heap.size w w') : RdP w' w'.heap.size A l := Rd.ups (Rd.below h hb) hb.size
end Go.Proofs.Ytalfmcajghmkpaa
/- Rows of pieces of the call's own. -/
namespace Go.Proofs.Ytalfmcajghmkpaa
set_option maxRecDepth 100000
open Go.RowKit
set_option linter.unusedVariables false
set_option linter.unusedSimpArgs false
theorem pieceInfo : (Try.prog.info? 27).map (fun i => (i.zero, i.size, i.bytes)) = some (some (.agg zPc), 5, 48) := by kernel_rfl
theorem piece_parts : ∃ i, Try.prog.info? 27 = some i ∧ i.zero = some (.agg zPc) ∧ i.size = 5 ∧ i.bytes = 48 := by
  obtain ⟨i, hi, hi2⟩ := Option.map_eq_some_iff.1 pieceInfo
  simp only [Prod.mk.injEq] at hi2
  exact ⟨i, hi, hi2.1, hi2.2.1, hi2.2.2⟩
theorem pcs_oneCell (l : List Pc) : ∀ u ∈ pcs l, u.oneCell' = true := by
  intro u hu
  obtain ⟨c, hc, hu⟩ := List.mem_flatten.1 hu
  obtain ⟨p, _, rfl⟩ := List.mem_map.1 hc
  simp [pcL] at hu
  rcases hu with rfl | rfl | rfl | rfl | rfl <;> rfl
/-- pieces of the call's own -/
def OwnP (w : World) (base : Nat) (v : Value) (l : List Pc) : Prop := w.ownsRow base 27 5 v l.length (pcs l)
theorem OwnP.rd {w : World} {base : Nat} {v : Value} {l : List Pc} (h : OwnP w base v l) : ∃ A cap, v = .slice A l.length cap ∧ l.length ≤ cap ∧ cap ≤ maxLen ∧ RdP w w.heap.size A l := own_rd h
theorem OwnP.next {w w' : World} {base : Nat} {v : Value} {l : List Pc} (h : OwnP w base v l) (hb : Below w.heap.size w w') : OwnP w' base v l := own_keep (S := fun _ => False) h (Only.of_below hb) (fun _ _ h => h)
theorem OwnP.rdAt {w : World} {base : Nat} {A : Option Addr} {n c : Nat} {l : List Pc} (h : OwnP w base (.slice A n c) l) : RdP w w.heap.size A l := by
  obtain ⟨A', c', e, _, _, h3⟩ := h.rd
  injection e with e1 e2 e3
  rw [e1]; exact h3
theorem OwnP.open_ {w : World} {base : Nat} {A : Option Addr} {n cap : Nat} {l : List Pc} (h : OwnP w base (.slice A n cap) l) (hne : 0 < l.length) : ∃ g rest, A = some ⟨g, 0, none⟩ ∧ base ≤ g ∧ Blk w g 27 (pcs l ++ rest).toArray ∧ l.length ≤ cap ∧ cap ≤ maxLen ∧ rest.length + l.length * 5 = cap * 5 := by
  rcases h.2 with ⟨_, h0⟩ | ⟨g, cap', cur, e, hb, hh, hn, hm, hc, ht⟩
  · omega
  · injection e with e1 e2 e3
    subst e1 e3
    refine ⟨g, cur.toList.drop (l.length * 5), rfl, hb, ?_, hn, hm, ?_⟩
    · unfold Blk
      rw [hh, ← ht, List.take_append_drop]
    · rw [List.length_drop, Array.length_toList, hc]; omega
theorem OwnP.ofBlk {w : World} {base g cap : Nat} {l : List Pc} {rest : List Value} (hg : base ≤ g) (h : Blk w g 27 (pcs l ++ rest).toArray) (hn : l.length ≤ cap) (hm : cap ≤ maxLen) (hr : rest.length + l.length * 5 = cap * 5) : OwnP w base (.slice (some ⟨g, 0, none⟩) l.length cap) l :=
  ⟨pcs_len l, .inr ⟨g, cap, _, rfl, hg, h, hn, hm, by rw [List.size_toArray, List.length_append, pcs_len]; omega, by rw [← pcs_len l]; exact List.take_left⟩⟩
theorem pcs_at (l : List Pc) (k j : Nat) (hk : k < l.length) (hj : j < 5) : (pcs l)[k * 5 + j]? = (pcL (l.getD k pc0))[j]? := by
  rw [← pcs_one l k hk, List.getElem?_take_of_lt hj, List.getElem?_drop]
theorem pcs_setV : ∀ (l : List Pc) (k : Nat) (x : Int) (_ : k < l.length), (pcs l).set (k * 5 + 2) (.int .i64 x) = pcs (l.set k ⟨(l.getD k pc0).s, (l.getD k pc0).t, x, (l.getD k pc0).n, (l.getD k pc0).d⟩)
  | [], _, _, h => by simp at h
  | p :: l, 0, x, _ => rfl
  | p :: l, k + 1, x, h => by
    rw [List.set_cons_succ, pcs_cons, pcs_cons, show (k + 1) * 5 + 2 = (pcL p).length + (k * 5 + 2) by simp [pcL]; omega, List.set_append_right _ _ (by omega), Nat.add_sub_cancel_left, pcs_setV l k x (by simpa using h)]
    rfl
def ivs (vs : List Int) : List Value := vs.map fun v => .int .i64 v
theorem ivs_cell {w : World} {B : Nat} {A : Option Addr} {vs : List Int} (h : Rd w B A (ivs vs)) (k : Nat) (hk : k < vs.length) : ∃ ad, A = some ad ∧ ad.block < B ∧ w.cell? (ad.add k) = some (.int .i64 (vs.getD k 0)) := by
  obtain ⟨ad, e, hb, hc⟩ := h (by unfold ivs; intro h0; rw [List.map_eq_nil_iff] at h0; rw [h0] at hk; simp at hk)
  refine ⟨ad, e, hb, hc k _ ?_⟩
  simp [ivs, List.getD_eq_getElem?_getD, hk]
theorem layR_like {l m : List Pc} (h : l.map noV = m.map noV) (hl : ∀ p ∈ l, PcOk p) (hm : ∀ p ∈ m, PcOk p) : (layR l).length = (layR m).length := by
  unfold layR
  rw [← chkL_like h]
  split
  · rename_i h0; exact layL_like h h0 hl hm
  · rfl
theorem layR_le {l : List Pc} (hl : ∀ p ∈ l, PcOk p) : (layR l).length ≤ 4096 := by
  unfold layR
  split
  · rename_i h0; rw [layL_len h0 hl]; exact (chk_ok h0).2.1
  · simp
end Go.Proofs.Ytalfmcajghmkpaa
/- Laws for rounds: operations told by a run, stores and loads of whole rows; a slice of one piece. -/
namespace Go.Proofs.Ytalfmcajghmkpaa
set_option maxRecDepth 100000
open Go.RowKit
set_option linter.unusedVariables false
set_option linter.unusedSimpArgs false
section
variable {F : Fence} {n : Nat} {P : Program} {ops : Array Oper} {Q : Exit → Act → World → Prop} {a : Act} {w : World} {rest : List Oper} {o : Oper}
theorem wpListIn_run (hg : o.guard = none) (hab : o.about P w a.eval = none) (hnd : ∀ c, o.op ≠ .defer c) (v : Value) (w' : World) (hrun : (execOp a.eval o).run P w = .ok (.value v) w')
    (h : wpListIn F n P ops Q rest (a.put o.dst v) w') : wpListIn F n P ops Q (o :: rest) a w := by
  refine wpListIn_plain hg fun K' hK' => ?_
  unfold Oper.wpIn
  refine ⟨fun f hf => (by rw [hab] at hf; cases hf), ?_⟩
  rw [Oper.semAt_plain F _ _ hnd, hrun]
  exact hK' _ _ h
theorem wpListIn_skipR (hg : o.guard = none) (hab : o.about P w a.eval = none) (hnd : ∀ c, o.op ≠ .defer c) (w' : World) (hrun : (execOp a.eval o).run P w = .ok .skip w')
    (h : wpListIn F n P ops Q rest (a.put o.dst undef) w') : wpListIn F n P ops Q (o :: rest) a w := by
  refine wpListIn_plain hg fun K' hK' => ?_
  unfold Oper.wpIn
  refine ⟨fun f hf => (by rw [hab] at hf; cases hf), ?_⟩
  rw [Oper.semAt_plain F _ _ hnd, hrun]
  exact hK' _ _ h
theorem wpListIn_storeP (hgd : o.guard = none) (ty : TypeId) (x y : Operand) (ho : o.op = .store ty x y)
    (hd : o.dst = none) (g : Nat) (cells : Array Value) (hx : a.eval x = .pointer (some ⟨g, 0, none⟩)) (hy : a.eval y = .agg cells)
    (t : TypeId) (old : Array Value) (hg : w.heap[g]? = some (.cells old t (0, 0))) (hi : (P.info? ty).map (·.size) = some cells.size)
    (hold : old.size = cells.size) (h1 : cells.all (·.oneCell') = true)
    (h : wpListIn F n P ops Q rest a (w.setRow g cells)) : wpListIn F n P ops Q (o :: rest) a w :=
  wpListIn_skipR hgd (by unfold Oper.about; rw [ho]) (by rw [ho]; intro c hc; cases hc) (w.setRow g cells) (by
    unfold execOp
    simp only [ho, hx, hy, Instr.storeAt, Instr.sureAddr, Sem.run_bind, Sem.run_pure, Result.andThen_ok, run_storeVar_row w g t ty old cells hg hi hold h1]) (by rw [hd]; exact h)
theorem wpListIn_loadP (hgd : o.guard = none) (ty : TypeId) (x : Operand) (ho : o.op = .load ty x) (b : Addr) (hx : a.eval x = .pointer (some b)) (cs : List Value) (d : TypeDesc) (hc : AtA w b cs)
    (hu : P.underlying ty = some d) (hd : d.isRow = true) (hi : (P.info? ty).map (·.size) = some cs.length)
    (h : wpListIn F n P ops Q rest (a.put o.dst (.agg cs.toArray)) w) : wpListIn F n P ops Q (o :: rest) a w :=
  wpListIn_run hgd (by unfold Oper.about; rw [ho]) (by rw [ho]; intro c hc; cases hc) (.agg cs.toArray) w (by
    unfold execOp
    simp only [ho, hx, Instr.loadAt, Instr.sureAddr, Sem.run_bind, Sem.run_pure, Result.andThen_ok, run_loadVar_at w b ty cs d hc hu hd hi]) h
end
theorem atA_blk {w : World} {g : Nat} {T : TypeId} {cs : List Value} (h : Blk w g T cs.toArray) : AtA w ⟨g, 0, none⟩ cs := fun j u hu => by
  rw [Addr.add_mid, Nat.zero_add, h.cell]
  simpa using hu
theorem run_onePc (w : World) (p : Pc) {o : Oper} {ρ : Operand → Value} (x : Operand) (ho : o.op = .buildSlice 34 1 #[(0, x)]) (hx : ρ x = .agg (pcV p)) :
    (execOp ρ o).run Try.prog w = .ok (.value (.slice (some ⟨w.heap.size, 0, none⟩) 1 1)) (w.alloc (.cells (pcV p) 27)) := by
  obtain ⟨i, hi, hz, hs, _⟩ := piece_parts
  have h1 := run_buildSlice (P := Try.prog) w 34 27 1 #[(0, .agg (pcV p))] (pcV p) i _ Try.underlying34 hi hz (by rw [hs]; omega) (by rw [hs]; omega) (by rw [hs]; kernel_rfl)
  unfold execOp
  simp only [ho, Sem.run_bind, List.map_toArray, List.map_cons, List.map_nil, hx, h1, Result.andThen_ok]
  rfl
theorem grown_none {A B : World} (h : Below A.heap.size A B) : A.grownBy B none := ⟨h.os, h.tape, h.output, h.size, fun k hk _ => h.block k hk⟩
end Go.Proofs.Ytalfmcajghmkpaa
