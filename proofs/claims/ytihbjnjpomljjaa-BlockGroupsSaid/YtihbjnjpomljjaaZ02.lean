/- Parts, one behind the other: Df2 Df3 OpP OpPc Mg0 Bk0 Bk4 Df4 Df5 Df6 Df7. -/
import Derived.Test.YtihbjnjpomljjaaZ01
import Derived.Great.BuildSlice
import Derived.DataElems
import Derived.IntWalk
/- Contracts: which piece stands ahead. -/
namespace Go.Proofs.Ytihbjnjpomljjaa
set_option maxRecDepth 100000
open Go.RowKit
set_option linter.unusedVariables false
set_option linter.unusedSimpArgs false
theorem heap2P (w : World) (a b : Obj) : ((((w.alloc a).alloc b))).heap[w.heap.size + 1]? = some b := by
  have h := heap_alloc_new (w.alloc a) b
  have e : (w.alloc a).heap.size = w.heap.size + 1 := by simp
  rw [e] at h
  exact h
def orL : List Int → Int
  | [] => 0
  | x :: l => if x = 0 then orL l else x
def ints (l : List Int) : List Value := l.map fun x => .int .i64 x
def IntsAt (w : World) (g : Nat) (l : List Int) : Prop := Blk w g 3 (ints l).toArray
theorem IntsAt.at_ {w : World} {g : Nat} {l : List Int} (h : IntsAt w g l) (i : Nat) (hi : i < l.length) : w.cell? ⟨g, i, none⟩ = some (.int .i64 (l.getD i 0)) := by
  refine (Blk.cell h i).trans ?_
  simp [ints, List.getD_eq_getElem?_getD, hi]
theorem or_c (g c : Nat) (l : List Int) (w : World) (h : IntsAt w g l) (hl : l.length ≤ 100) :
    Calls Try.prog 16 #[.slice (some ⟨g, 0, none⟩) l.length c] w fun e w' => e = .returned (.int .i64 (orL l)) ∧ w = w' := by
  have HH := Lib.hid h
  clear h
  go_enter Try.func16, Try.ntmps16
  go_wp2
  go_loop [8] (fun i => ∃ k : Nat, k ≤ l.length ∧ i = .int .i64 k ∧ orL l = orL (l.drop k)) (fun i => l.length - (intOf i).toNat)
  case atStart => exact ⟨0, Nat.zero_le _, rfl, rfl⟩
  case round =>
    obtain ⟨k, hk, rfl, hd⟩ := hrel
    have HD := Lib.hid hd
    clear hd
    by_cases hlt : k < l.length
    · have e0 := HH.out.at_ k hlt
      have HDK := Lib.hid (show l.drop k = l.getD k 0 :: l.drop (k + 1) by rw [List.drop_eq_getElem_cons hlt]; simp [List.getD_eq_getElem?_getD, hlt])
      generalize l.getD k 0 = x at *
      have p1 : (k : Int) < (l.length : Int) := by omega
      by_cases hx : x = 0
      · subst hx
        go_wp2
        go_round
        case rel => exact ⟨k + 1, by omega, by go_num, by rw [HD.out, HDK.out]; rfl⟩
        case measure => simp [intOf]; omega
      · have t0 : (x != 0) = true := by rw [bne_iff_ne]; exact hx
        have HX := Lib.hid hx
        clear hx
        go_wp2
        go_ret
        exact ⟨by rw [HD.out, HDK.out, orL, if_neg HX.out]; rfl, rfl⟩
    · obtain rfl : k = l.length := by omega
      go_wp2
      go_ret
      exact ⟨by rw [HD.out, List.drop_length]; rfl, rfl⟩
theorem intInfo : (Try.prog.info? 3).map (fun i => (i.zero, i.size, i.bytes)) = some (some (.int .i64 0), 1, 8) := by kernel_rfl
theorem run_ints (w : World) (l : List Int) {o : Oper} {ρ : Operand → Value} (xs : Array (Nat × Operand)) (ho : o.op = .buildSlice 56 l.length xs)
    (hx : (xs.map fun (p : Nat × Operand) => (p.1, ρ p.2)).toList = (((ints l).zipIdx 0).map fun x => (x.2, x.1))) (hlen : l.length ≤ 1000) (hpos : 0 < l.length) :
    (execOp ρ o).run Try.prog w = .ok (.value (.slice (some ⟨w.heap.size, 0, none⟩) l.length l.length)) (w.alloc (.cells (ints l).toArray 3)) := by
  obtain ⟨i0, hi, hz0, hz1, hz2⟩ := info_parts intInfo
  have h1 := run_buildSlice (P := Try.prog) w 56 3 l.length (xs.map fun (p : Nat × Operand) => (p.1, ρ p.2)) (ints l).toArray i0 _ Try.underlying56 hi hz0 (by rw [hz1]; omega) (by rw [hz1]; omega) (by
    rw [hz1]
    refine (congrArg _ hx).trans ?_
    exact (Great.fill_flat (ints l) _ (fun v hv => by
      obtain ⟨p, _, rfl⟩ := List.mem_map.1 hv
      rfl) (by simp [ints])))
  unfold execOp
  simp only [ho, Sem.run_bind, h1, Result.andThen_ok]
  rfl
def IntsV (l : List Int) (u : Value) (W : World) : Prop := ∃ g, u = .slice (some ⟨g, 0, none⟩) l.length l.length ∧ IntsAt W g l
theorem IntsV.next {l : List Int} {u : Value} {W W' : World} (h : IntsV l u W) (hb : Below W.heap.size W W') : IntsV l u W' := by
  obtain ⟨g, e, h⟩ := h
  exact ⟨g, e, Blk.below h hb (Blk.lt h)⟩
theorem IntsV.or_ {l : List Int} {u : Value} {W : World} (h : IntsV l u W) (hl : l.length ≤ 100) : Calls Try.prog 16 #[u] W fun e w' => e = .returned (.int .i64 (orL l)) ∧ W = w' := by
  obtain ⟨g, rfl, h⟩ := h
  exact or_c g _ l W h hl
def idV (n d : Nat) : Array Value := #[.int .u64 (n : Int), .int .u16 (d : Int)]
def cmpD (n d n2 d2 : Nat) : Int := orL [cmpI n n2, cmpI d d2]
set_option maxRecDepth 100000 in
set_option maxHeartbeats 4000000 in
theorem ids_c (n d n2 d2 : Nat) (w : World) : Calls Try.prog 17 #[.agg (idV n d), .agg (idV n2 d2)] w fun e w' => e = .returned (.int .i64 (cmpD n d n2 d2)) ∧ Below w.heap.size w w' := by
  go_enter Try.func17, Try.ntmps17
  go_upto_region 1 with (first
    | (refine Go.Great.wpList_boxTo rfl 31 (.tmp 0) rfl (some 2) rfl w.heap.size rfl (idV n d) rfl ?_)
    | (refine Go.Great.wpList_boxTo rfl 31 (.tmp 1) rfl (some 3) rfl (w.heap.size + 1) (by simp) (idV n2 d2) rfl ?_))
  obtain ⟨Z, hZ⟩ : ∃ Z, Z = (w.alloc (Obj.cells (idV n d) 31)).alloc (Obj.cells (idV n2 d2) 31) := ⟨_, rfl⟩
  have H1 := show Blk Z w.heap.size 31 (idV n d) by rw [hZ]; exact (Blk.new w _ _).alloc _
  have H2 := show Blk Z (w.heap.size + 1) 31 (idV n2 d2) by rw [hZ]; exact heap2P w _ _
  have HB := Lib.hid (show Below w.heap.size w Z by rw [hZ]; exact ((Below.refl _ _).alloc (Nat.le_refl _) _).alloc (by simp) _)
  rw [← hZ]
  clear hZ
  have c0 := cell_ext (show Z.cell? ⟨w.heap.size, 0, none⟩ = some (.int .u64 (n : Int)) from (H1.cell 0).trans rfl)
  have c1 := cell_ext (show Z.cell? ⟨w.heap.size, 1, none⟩ = some (.int .u16 (d : Int)) from (H1.cell 1).trans rfl)
  have c2 := cell_ext (show Z.cell? ⟨w.heap.size + 1, 0, none⟩ = some (.int .u64 (n2 : Int)) from (H2.cell 0).trans rfl)
  have c3 := cell_ext (show Z.cell? ⟨w.heap.size + 1, 1, none⟩ = some (.int .u16 (d2 : Int)) from (H2.cell 1).trans rfl)
  clear H1 H2
  refine wp_region_loud Z [15] (fun _ u W => IntsV [cmpI n n2, cmpI d d2] u W) (by kernel_rfl) (by kernel_rfl) (by kernel_rfl) (by kernel_rfl) (fun _ _ _ _ h hb => h.next hb) (Below.refl _ _).drew ?_
  repeat (first
    | (refine wpLoud_call 9 rfl [] (.int .i64 (cmpI n n2)) 24 (fun g => #[.int .u64 (n : Int), .int .u64 (n2 : Int)]) rfl (fun _ _ h => by cases h) rfl (fun g w => by kernel_rfl) (fun g z hg => by
        refine (cmp_u64 _ _ z.wd).mono ?_
        rintro e w' ⟨rfl, rfl⟩
        exact ⟨_, rfl, Below.refl _ _, rfl⟩) _ (by simp only [Act.put, List.setIfInBounds_toArray, List.set_cons_succ, List.set_cons_zero]; rfl) ?_)
    | (refine wpLoud_call 14 rfl [] (.int .i64 (cmpI d d2)) 25 (fun g => #[.int .u16 (d : Int), .int .u16 (d2 : Int)]) rfl (fun _ _ h => by cases h) rfl (fun g w => by kernel_rfl) (fun g z hg => by
        refine (cmp_u16 _ _ z.wd).mono ?_
        rintro e w' ⟨rfl, rfl⟩
        exact ⟨_, rfl, Below.refl _ _, rfl⟩) _ (by simp only [Act.put, List.setIfInBounds_toArray, List.set_cons_succ, List.set_cons_zero]; rfl) ?_)
    | (refine wpLoud_make rfl (fun _ _ h => by cases h) rfl 15 rfl rfl (fun y => ⟨_, _, run_ints y.wd [cmpI n n2, cmpI d d2] #[(0, .tmp 9), (1, .tmp 14)] rfl (by kernel_rfl) (by simp) (by simp), (Below.refl _ _).alloc (Nat.le_refl _) _, ⟨_, rfl, Blk.new _ _ _⟩⟩) _ (by simp only [Act.put, List.setIfInBounds_toArray, List.set_cons_succ, List.set_cons_zero]; rfl) ?_)
    | (refine wpLoud_call 16 rfl [15] (.int .i64 (cmpD n d n2 d2)) 16 (fun g => #[g 15]) rfl (fun _ _ h => by cases h) rfl (fun g w => by kernel_rfl) (fun g z hg => by
        refine ((hg 15 (by simp)).or_ (by simp)).mono ?_
        rintro e w' ⟨rfl, rfl⟩
        exact ⟨_, rfl, Below.refl _ _, rfl⟩) _ (by simp only [Act.put, List.setIfInBounds_toArray, List.set_cons_succ, List.set_cons_zero]; rfl) ?_)
    | (refine wpLoud_plain rfl rfl rfl ?_; intro K hK; go_big_quiet_op; go_big_quiet_on))
  refine wpLoud_end [] (by rfl) ?_
  intro g z hg
  have HBZ := Lib.hid (HB.out.trans (z.bel.mono HB.out.size))
  generalize z.wd = Y2 at *
  simp only [fill, Act.put, List.setIfInBounds_toArray, List.set_cons_succ, List.set_cons_zero]
  go_wp2_with fail
  go_ret
  exact ⟨rfl, HBZ.out⟩
def pcL (p : Pc) : List Value := [.string p.s, .int .i64 p.t, .int .i64 p.v, .int .u64 (p.n : Int), .int .u16 (p.d : Int)]
def pcV (p : Pc) : Array Value := (pcL p).toArray
def cmpP (a b : Pc) : Int := orL [cmpS a.s b.s, cmpI a.t b.t, cmpD a.n a.d b.n b.d]
def lessP (a b : Pc) : Bool := decide (cmpP a b < 0)
theorem idInfo : (Try.prog.info? 31).map (·.size) = some 2 := by kernel_rfl
theorem rangeAt_id {w : World} {g : Nat} {p : Pc} (h : Blk w g 33 (pcV p)) : w.rangeAt g 3 (idV p.n p.d).toList := fun i u hu => by
  refine (h.cell (3 + i)).trans ?_
  rw [← hu]
  match i with
  | 0 => rfl
  | 1 => rfl
  | i + 2 =>
    rw [show 3 + (i + 2) = i + 5 by omega]
    rfl
set_option maxRecDepth 100000 in
set_option maxHeartbeats 4000000 in
theorem compare_c (p q : Pc) (w : World) : Calls Try.prog 21 #[.agg (pcV p), .agg (pcV q)] w fun e w' => e = .returned (.int .i64 (cmpP p q)) ∧ Below w.heap.size w w' := by
  go_enter Try.func21, Try.ntmps21
  go_upto_region 1 with (first
    | (refine Go.Great.wpList_boxTo rfl 33 (.tmp 0) rfl (some 2) rfl w.heap.size rfl (pcV p) rfl ?_)
    | (refine Go.Great.wpList_boxTo rfl 33 (.tmp 1) rfl (some 3) rfl (w.heap.size + 1) (by simp) (pcV q) rfl ?_))
  obtain ⟨Z, hZ⟩ : ∃ Z, Z = (w.alloc (Obj.cells (pcV p) 33)).alloc (Obj.cells (pcV q) 33) := ⟨_, rfl⟩
  have h1 := show Blk Z w.heap.size 33 (pcV p) by rw [hZ]; exact (Blk.new w _ _).alloc _
  have h2 := show Blk Z (w.heap.size + 1) 33 (pcV q) by rw [hZ]; exact heap2P w _ _
  have HB := Lib.hid (show Below w.heap.size w Z by rw [hZ]; exact ((Below.refl _ _).alloc (Nat.le_refl _) _).alloc (by simp) _)
  rw [← hZ]
  clear hZ
  have c0 := cell_ext (show Z.cell? ⟨w.heap.size, 0, none⟩ = some (.string p.s) from (h1.cell 0).trans rfl)
  have c1 := cell_ext (show Z.cell? ⟨w.heap.size, 1, none⟩ = some (.int .i64 p.t) from (h1.cell 1).trans rfl)
  have c2 := cell_ext (show Z.cell? ⟨w.heap.size + 1, 0, none⟩ = some (.string q.s) from (h2.cell 0).trans rfl)
  have c3 := cell_ext (show Z.cell? ⟨w.heap.size + 1, 1, none⟩ = some (.int .i64 q.t) from (h2.cell 1).trans rfl)
  have H1 := Lib.hid h1
  have H2 := Lib.hid h2
  have HII := Lib.hid idInfo
  clear h1 h2
  refine wp_region_loud Z [20] (fun _ u W => IntsV [cmpS p.s q.s, cmpI p.t q.t, cmpD p.n p.d q.n q.d] u W) (by kernel_rfl) (by kernel_rfl) (by kernel_rfl) (by kernel_rfl) (fun _ _ _ _ h hb => h.next hb) (Below.refl _ _).drew ?_
  repeat (first
    | (refine wpLoud_loadB rfl rfl 31 (.tmp 15) rfl w.heap.size 3 rfl (idV p.n p.d) _ (fun z => rangeAt_id (H1.out.below z.bel H1.out.lt)) Try.underlying31 rfl HII.out _ (by simp only [Act.put, List.setIfInBounds_toArray, List.set_cons_succ, List.set_cons_zero]; rfl) ?_)
    | (refine wpLoud_loadB rfl rfl 31 (.tmp 17) rfl (w.heap.size + 1) 3 rfl (idV q.n q.d) _ (fun z => rangeAt_id (H2.out.below z.bel H2.out.lt)) Try.underlying31 rfl HII.out _ (by simp only [Act.put, List.setIfInBounds_toArray, List.set_cons_succ, List.set_cons_zero]; rfl) ?_)
    | (refine wpLoud_call 9 rfl [] (.int .i64 (cmpS p.s q.s)) 30 (fun g => #[.string p.s, .string q.s]) rfl (fun _ _ h => by cases h) rfl (fun g w => by kernel_rfl) (fun g z hg => by
        refine (cmp_s _ _ z.wd).mono ?_
        rintro e w' ⟨rfl, rfl⟩
        exact ⟨_, rfl, Below.refl _ _, rfl⟩) _ (by simp only [Act.put, List.setIfInBounds_toArray, List.set_cons_succ, List.set_cons_zero]; rfl) ?_)
    | (refine wpLoud_call 14 rfl [] (.int .i64 (cmpI p.t q.t)) 18 (fun g => #[.int .i64 p.t, .int .i64 q.t]) rfl (fun _ _ h => by cases h) rfl (fun g w => by kernel_rfl) (fun g z hg => by
        refine (cmp_i64 _ _ z.wd).mono ?_
        rintro e w' ⟨rfl, rfl⟩
        exact ⟨_, rfl, Below.refl _ _, rfl⟩) _ (by simp only [Act.put, List.setIfInBounds_toArray, List.set_cons_succ, List.set_cons_zero]; rfl) ?_)
    | (refine wpLoud_call 19 rfl [] (.int .i64 (cmpD p.n p.d q.n q.d)) 17 (fun g => #[.agg (idV p.n p.d), .agg (idV q.n q.d)]) rfl (fun _ _ h => by cases h) rfl (fun g w => by kernel_rfl) (fun g z hg => by
        refine (ids_c _ _ _ _ z.wd).mono ?_
        rintro e w' ⟨rfl, hb⟩
        exact ⟨_, rfl, hb, rfl⟩) _ (by simp only [Act.put, List.setIfInBounds_toArray, List.set_cons_succ, List.set_cons_zero]; rfl) ?_)
    | (refine wpLoud_make rfl (fun _ _ h => by cases h) rfl 20 rfl rfl (fun y => ⟨_, _, run_ints y.wd [cmpS p.s q.s, cmpI p.t q.t, cmpD p.n p.d q.n q.d] #[(0, .tmp 9), (1, .tmp 14), (2, .tmp 19)] rfl (by kernel_rfl) (by simp) (by simp), (Below.refl _ _).alloc (Nat.le_refl _) _, ⟨_, rfl, Blk.new _ _ _⟩⟩) _ (by simp only [Act.put, List.setIfInBounds_toArray, List.set_cons_succ, List.set_cons_zero]; rfl) ?_)
    | (refine wpLoud_call 21 rfl [20] (.int .i64 (cmpP p q)) 16 (fun g => #[g 20]) rfl (fun _ _ h => by cases h) rfl (fun g w => by kernel_rfl) (fun g z hg => by
        refine ((hg 20 (by simp)).or_ (by simp)).mono ?_
        rintro e w' ⟨rfl, rfl⟩
        exact ⟨_, rfl, Below.refl _ _, rfl⟩) _ (by simp only [Act.put, List.setIfInBounds_toArray, List.set_cons_succ, List.set_cons_zero]; rfl) ?_)
    | (refine wpLoud_plain rfl rfl rfl ?_; intro K hK; go_big_quiet_op; go_big_quiet_on))
  refine wpLoud_end [] (by rfl) ?_
  intro g z hg
  have HBZ := Lib.hid (HB.out.trans (z.bel.mono HB.out.size))
  generalize z.wd = Y2 at *
  simp only [fill, Act.put, List.setIfInBounds_toArray, List.set_cons_succ, List.set_cons_zero]
  go_wp2_with fail
  go_ret
  exact ⟨rfl, HBZ.out⟩
theorem pcInfo (p : Pc) : (Try.prog.info? 33).map (·.size) = some (pcV p).size := by
  show _ = some 5
  kernel_rfl
set_option maxRecDepth 100000 in
set_option maxHeartbeats 4000000 in
theorem less_c (p q : Pc) (w : World) : Calls Try.prog 23 #[.agg (pcV p), .agg (pcV q)] w fun e w' => e = .returned (.bool (lessP p q)) ∧ Below w.heap.size w w' := by
  have HLP := Lib.hid (show lessP p q = decide (cmpP p q < 0) from rfl)
  have HCC := Lib.hid (fun W => compare_c p q W)
  have HI1 := Lib.hid (pcInfo p)
  have HI2 := Lib.hid (pcInfo q)
  generalize cmpP p q = r at *
  generalize lessP p q = b at *
  go_enter Try.func23, Try.ntmps23
  go_upto_region 1 with (first
    | (refine Go.Great.wpList_boxTo rfl 33 (.tmp 0) rfl (some 2) rfl w.heap.size rfl (pcV p) rfl ?_)
    | (refine Go.Great.wpList_boxTo rfl 33 (.tmp 1) rfl (some 3) rfl (w.heap.size + 1) (by simp) (pcV q) rfl ?_))
  obtain ⟨Z, hZ⟩ : ∃ Z, Z = (w.alloc (Obj.cells (pcV p) 33)).alloc (Obj.cells (pcV q) 33) := ⟨_, rfl⟩
  have H1 := Lib.hid (show Blk Z w.heap.size 33 (pcV p) by rw [hZ]; exact (Blk.new w _ _).alloc _)
  have H2 := Lib.hid (show Blk Z (w.heap.size + 1) 33 (pcV q) by rw [hZ]; exact heap2P w _ _)
  have HB := Lib.hid (show Below w.heap.size w Z by rw [hZ]; exact ((Below.refl _ _).alloc (Nat.le_refl _) _).alloc (by simp) _)
  rw [← hZ]
  clear hZ
  go_wp2_with (first
    | (refine wpList_load_row rfl 33 (.tmp 2) rfl w.heap.size rfl 33 (pcV p) (0, 0) _ H1.out Try.underlying33 rfl HI1.out ?_)
    | (refine wpList_load_row rfl 33 (.tmp 3) rfl (w.heap.size + 1) rfl 33 (pcV q) (0, 0) _ H2.out Try.underlying33 rfl HI2.out ?_)
    | (go_at_call 21; (refine (HCC.out Z).mono ?_); rintro e W1 ⟨rfl, hb⟩; have HB1 := Lib.hid (HB.out.trans (hb.mono HB.out.size)); clear hb))
  go_ret
  exact ⟨by rw [HLP.out]; rfl, HB1.out⟩
end Go.Proofs.Ytihbjnjpomljjaa
/- Rows of pieces that are read; contracts: whether a piece may be, whether there are too many. -/
namespace Go.Proofs.Ytihbjnjpomljjaa
set_option maxRecDepth 100000
open Go.RowKit
set_option linter.unusedVariables false
set_option linter.unusedSimpArgs false
/-- cells from an address on -/
def AtA (w : World) (a : Addr) (cs : List Value) : Prop := ∀ j v, cs[j]? = some v → w.cell? (a.add j) = some v
theorem AtA.drop {w : World} {a : Addr} {cs : List Value} (h : AtA w a cs) (k n : Nat) : AtA w (a.add k) ((cs.drop k).take n) := fun j v hv => by
  rw [Addr.add_add]
  have hj : j < n := by
    rcases Nat.lt_or_ge j n with h1 | h1
    · exact h1
    · rw [List.getElem?_eq_none (by rw [List.length_take]; omega)] at hv; cases hv
  rw [List.getElem?_take_of_lt hj, List.getElem?_drop] at hv
  exact h (k + j) v hv
theorem AtA.below {w w' : World} {a : Addr} {cs : List Value} {B : Nat} (h : AtA w a cs) (hb : Below B w w') (ha : a.block < B) : AtA w' a cs := fun j v hv =>
  (hb.cell (by rw [add_block]; exact ha)).trans (h j v hv)
section
variable {P : Program}
theorem run_loadVar_at (w : World) (a : Addr) (ty : TypeId) (cs : List Value) (d : TypeDesc) (hc : AtA w a cs)
    (hu : P.underlying ty = some d) (hd : d.isRow = true) (hi : (P.info? ty).map (·.size) = some cs.length) :
    (loadVar ty a).run P w = .ok (.agg cs.toArray) w := by
  have hl : (loadCells a cs.length).run P w = .ok cs.toArray w := run_loadCells_list (P := P) w a cs hc
  cases hq : P.info? ty with
  | none => simp [hq] at hi
  | some i =>
    have hs : i.size = cs.length := by simpa [hq] using hi
    have hagg : (isAgg ty).run P w = .ok true w := by
      unfold isAgg
      rw [Sem.run_bind, run_underlying hu w]
      cases d <;> simp_all
    simp [loadVar, Sem.run_bind, hagg, sizeOf, typeInfo, hq, hs, hl]
end
section
variable {P : Program}
theorem wpList_loadA {ops : Array Oper} {rest : List Oper} {op : Oper} {a : Act} {w : World} {Q : Exit → Act → World → Prop} (hw : Region.wanted op (yielded ops a.tmps) = true) (ty : TypeId) (x : Operand) (ho : op.op = .load ty x)
    (b : Addr) (hx : a.eval x = .pointer (some b)) (l : List Value) (d : TypeDesc) (hc : AtA w b l)
    (hu : P.underlying ty = some d) (hd : d.isRow = true) (hi : (P.info? ty).map (·.size) = some l.length)
    (h : wpList P ops Q rest (a.put op.dst (.agg l.toArray)) w) : wpList P ops Q (op :: rest) a w :=
  wpList_valG hw _ (by
    unfold execOp
    simp only [ho, hx, Instr.loadAt, Instr.sureAddr, Sem.run_bind, Sem.run_pure, Result.andThen_ok, run_loadVar_at w b ty l d hc hu hd hi]) h
end
def pcs (l : List Pc) : List Value := (l.map pcL).flatten
theorem pcs_nil : pcs [] = [] := rfl
theorem pcs_cons (p : Pc) (l : List Pc) : pcs (p :: l) = pcL p ++ pcs l := by simp [pcs]
theorem pcs_app (l m : List Pc) : pcs (l ++ m) = pcs l ++ pcs m := by simp [pcs]
theorem pcs_len (l : List Pc) : (pcs l).length = l.length * 5 := by
  induction l with
  | nil => rfl
  | cons p l ih => rw [pcs_cons, List.length_append, ih]; simp [pcL]; omega
theorem pcs_drop (l : List Pc) (n : Nat) : pcs (l.drop n) = (pcs l).drop (n * 5) := by
  induction l generalizing n with
  | nil => simp [pcs_nil]
  | cons p l ih =>
    cases n with
    | zero => simp
    | succ n =>
      rw [List.drop_succ_cons, ih, pcs_cons, show (n + 1) * 5 = (pcL p).length + n * 5 by simp [pcL]; omega, List.drop_length_add_append]
theorem pcs_take (l : List Pc) (n : Nat) : pcs (l.take n) = (pcs l).take (n * 5) := by
  induction l generalizing n with
  | nil => simp [pcs_nil]
  | cons p l ih =>
    cases n with
    | zero => simp [pcs_nil]
    | succ n =>
      rw [List.take_succ_cons, pcs_cons, pcs_cons, ih, show (n + 1) * 5 = (pcL p).length + n * 5 by simp [pcL]; omega, List.take_length_add_append]
theorem pcs_one (l : List Pc) (i : Nat) (h : i < l.length) : ((pcs l).drop (i * 5)).take 5 = pcL (l.getD i pc0) := by
  rw [← pcs_drop, List.drop_eq_getElem_cons h, pcs_cons]
  simp [pcL, List.getD_eq_getElem?_getD, h]
/-- pieces that lie in memory -/
def RdP (w : World) (B : Nat) (A : Option Addr) (l : List Pc) : Prop := Rd w B A (pcs l)
theorem RdP.open_ {w : World} {B : Nat} {A : Option Addr} {l : List Pc} (h : RdP w B A l) (hn : 0 < l.length) : ∃ ad, A = some ad ∧ ad.block < B ∧ AtA w ad (pcs l) := by
  obtain ⟨ad, rfl, hb, hc⟩ := (show Rd w B A (pcs l) from h) (by intro h0; have := congrArg List.length h0; rw [pcs_len] at this; simp at this; omega)
  exact ⟨ad, rfl, hb, hc⟩
theorem AtA.piece {w : World} {ad : Addr} {l : List Pc} (h : AtA w ad (pcs l)) (i : Nat) (hi : i < l.length) : AtA w (ad.add (i * 5)) (pcL (l.getD i pc0)) := by
  rw [← pcs_one l i hi]; exact h.drop (i * 5) 5
theorem AtA.ser {w : World} {a : Addr} {p : Pc} (h : AtA w a (pcL p)) : w.cell? a = some (.string p.s) := by
  have := h 0 _ rfl
  rwa [show a.add 0 = a by simp [Addr.add]] at this
theorem pcLn (p : Pc) : (Try.prog.info? 33).map (·.size) = some (pcL p).length := by
  show _ = some 5
  kernel_rfl
def greatB (l : List Pc) (m : Nat) : Bool := decide (m < l.length) || (l.take m).any fun p => decide (400 < p.s.size)
theorem greatB_no {l : List Pc} {m : Nat} (h : greatB l m = false) : l.length ≤ m ∧ ∀ p ∈ l, p.s.size ≤ 400 := by
  unfold greatB at h
  rw [Bool.or_eq_false_iff, decide_eq_false_iff_not, List.any_eq_false] at h
  refine ⟨by omega, fun p hp => ?_⟩
  have := h.2 p (by rw [List.take_of_length_le (by omega)]; exact hp)
  simpa using this
set_option maxRecDepth 100000 in
set_option maxHeartbeats 1000000 in
theorem great_c (B : Nat) (A : Option Addr) (c : Nat) (l : List Pc) (m : Nat) (w : World) (hr : RdP w B A l) (h1 : l.length ≤ 9223372036854775807) (hm : m ≤ 1000000) (hs : ∀ p ∈ l, p.s.size ≤ 9223372036854775807) :
    Calls Try.prog 4 #[.slice A l.length c, .int .i64 m] w fun e w' => e = .returned (.bool (greatB l m)) ∧ w = w' := by
  have HR := Lib.hid hr
  clear hr
  go_enter Try.func4, Try.ntmps4
  go_wp2
  go_loop [5] (fun i => ∃ k : Nat, k ≤ l.length ∧ k ≤ m ∧ i = .int .i64 k ∧ ((l.take k).any fun p => decide (400 < p.s.size)) = false) (fun i => l.length - (intOf i).toNat)
  case atStart => exact ⟨0, Nat.zero_le _, Nat.zero_le _, rfl, by simp⟩
  case round =>
    obtain ⟨k, hk, hkm, rfl, hd⟩ := hrel
    have HD := Lib.hid hd
    clear hd
    by_cases hlt : k < l.length ∧ k < m
    · obtain ⟨hlt, hltm⟩ := hlt
      obtain ⟨ad, rfl, _, hat⟩ := HR.out.open_ (by omega)
      have e0 := (hat.piece k hlt).ser
      have HS := Lib.hid (show l.take (k + 1) = l.take k ++ [l.getD k pc0] by rw [List.take_succ_eq_append_getElem hlt]; simp [List.getD_eq_getElem?_getD, hlt])
      have hz := hs (l.getD k pc0) (by simp [List.getD_eq_getElem?_getD, hlt])
      have HMEM := Lib.hid (show l.getD k pc0 ∈ l.take m by
        rw [List.mem_iff_getElem]
        exact ⟨k, by rw [List.length_take]; omega, by simp [List.getD_eq_getElem?_getD, hlt]⟩)
      clear hat
      generalize l.getD k pc0 = p at *
      have p1 : (k : Int) < (l.length : Int) := by omega
      have p2 : (k : Int) < (m : Int) := by omega
      by_cases hg : 400 < p.s.size
      · have HF := Lib.hid (show greatB l m = true by
          unfold greatB
          rw [Bool.or_eq_true, List.any_eq_true]
          exact .inr ⟨p, HMEM.out, decide_eq_true hg⟩)
        clear HMEM
        go_wp2
        go_ret
        exact ⟨by rw [HF.out]; rfl, rfl⟩
      · have HG := Lib.hid hg
        go_wp2
        go_round
        case rel => exact ⟨k + 1, by omega, by omega, by go_num, by rw [HS.out, List.any_append, HD.out, List.any_cons, decide_eq_false HG.out]; rfl⟩
        case measure => simp [intOf]; omega
    · have HF := Lib.hid (show greatB l m = decide (m < l.length) by
        unfold greatB
        by_cases hlm : m < l.length
        · rw [decide_eq_true hlm]; rfl
        · rw [decide_eq_false hlm, Bool.false_or]
          have e : l.take m = l.take k := by rw [List.take_of_length_le (by omega), List.take_of_length_le (by omega)]
          rw [e]; exact HD.out)
      by_cases hkl : k < l.length
      · have hk2 : k = m := by omega
        subst hk2
        have p1 : (k : Int) < (l.length : Int) := by omega
        have HT := Lib.hid (decide_eq_true (show k < l.length from hkl))
        clear hlt
        go_wp2
        go_ret
        exact ⟨by rw [HF.out]; first | rfl | (rw [HT.out]; rfl), rfl⟩
      · have hk2 : k = l.length := by omega
        subst hk2
        have HT := Lib.hid (decide_eq_false (show ¬ m < l.length by omega))
        clear hlt hkl
        go_wp2
        go_ret
        exact ⟨by rw [HF.out]; first | rfl | (rw [HT.out]; rfl), rfl⟩
end Go.Proofs.Ytihbjnjpomljjaa
/- Pieces, int64s that came in, opened. -/
namespace Go.Proofs.Ytihbjnjpomljjaa
set_option maxRecDepth 100000
open Go.ChangeShapes Go.WideShapes Go.ChangeAt Go.RowKit
set_option linter.unusedVariables false
theorem cut_eqP {cs : List Value} {n : Nat} (a : Nat) (xs : List Value) (hx : xs.length = n) (h : (cs.drop a).take n = xs) : cs.drop a = xs ++ cs.drop (a + n) := by
  rw [← h, ← List.drop_drop, List.take_append_drop]
theorem mark_of {H : Type} {enc : TypeId × Value → H} {W : World} {fuel : Nat} {cs : List Value} {y : DataW H × List MemPlace} (hf : DataW.trod enc Try.prog W 0 (fun _ => true) true fuel 31 cs = some y) :
    ∃ n d : Nat, n < 18446744073709551616 ∧ d < 65536 ∧ cs = [.int .u64 (n : Int), .int .u16 (d : Int)] := by
  obtain ⟨f0, f1, hs, ⟨o0, o1⟩, k0, k1⟩ : ∃ f0 f1 : Field, Try.prog.underlying 31 = some (.struct #[f0, f1]) ∧ (f0.offset = 0 ∧ f1.offset = 1) ∧ f0.type = 28 ∧ f1.type = 29 := ⟨_, _, Try.underlying31, ⟨rfl, rfl⟩, rfl, rfl⟩
  obtain ⟨xs, n, _, hx, hlc, hlen, hg⟩ := DataW.trod_struct hs hf
  have hlen' : xs.length = 2 := hlen
  have hC : Try.prog.cellsOf 31 = 2 := by kernel_rfl
  rw [hC] at hlc
  have h64 : Try.prog.cellsOf 28 = 1 := by kernel_rfl
  have h16 : Try.prog.cellsOf 29 = 1 := by kernel_rfl
  have g0 := hg 0 f0 rfl
  rw [k0, o0, h64, List.getElem?_eq_getElem (by omega)] at g0
  have g1 := hg 1 f1 rfl
  rw [k1, o1, h16, List.getElem?_eq_getElem (by omega)] at g1
  obtain ⟨z0, e0, _, w0⟩ := DataW.trod_int Try.underlying28 g0
  have b0 := bounds_u64 w0
  obtain ⟨n0, rfl⟩ := Int.eq_ofNat_of_zero_le b0.1
  obtain ⟨z1, e1, _, w1⟩ := DataW.trod_int Try.underlying29 g1
  have b1 := bounds_u16 w1
  obtain ⟨n1, rfl⟩ := Int.eq_ofNat_of_zero_le b1.1
  refine ⟨n0, n1, by omega, by omega, ?_⟩
  have c0 := cut_eqP (n := 1) 0 [_] rfl e0
  have c1 := cut_eqP (n := 1) 1 [_] rfl e1
  rw [List.drop_zero] at c0
  rw [c0, show 0 + 1 = 1 from rfl, c1, List.drop_eq_nil_of_le (by omega)]
  rfl
theorem piece_of {H : Type} {enc : TypeId × Value → H} {W : World} {fuel : Nat} {cs : List Value} {y : DataW H × List MemPlace} (hf : DataW.trod enc Try.prog W 0 (fun _ => true) true fuel 33 cs = some y) :
    ∃ p : Pc, cs = pcL p ∧ PcOk p ∧ p.s.size ≤ 9223372036854775807 := by
  obtain ⟨f0, f1, f2, f3, hs, ⟨o0, o1, o2, o3⟩, k0, k1, k2, k3⟩ : ∃ f0 f1 f2 f3 : Field, Try.prog.underlying 33 = some (.struct #[f0, f1, f2, f3]) ∧ (f0.offset = 0 ∧ f1.offset = 1 ∧ f2.offset = 2 ∧ f3.offset = 3) ∧ f0.type = 9 ∧ f1.type = 2 ∧ f2.type = 2 ∧ f3.type = 31 := ⟨_, _, _, _, Try.underlying33, ⟨rfl, rfl, rfl, rfl⟩, rfl, rfl, rfl, rfl⟩
  obtain ⟨xs, n, _, hx, hlc, hlen, hg⟩ := DataW.trod_struct hs hf
  have hlen' : xs.length = 4 := hlen
  have hC : Try.prog.cellsOf 33 = 5 := by kernel_rfl
  rw [hC] at hlc
  have hst : Try.prog.cellsOf 9 = 1 := by kernel_rfl
  have h64 : Try.prog.cellsOf 2 = 1 := by kernel_rfl
  have hid : Try.prog.cellsOf 31 = 2 := by kernel_rfl
  have g0 := hg 0 f0 rfl
  rw [k0, o0, hst, List.getElem?_eq_getElem (by omega)] at g0
  have g1 := hg 1 f1 rfl
  rw [k1, o1, h64, List.getElem?_eq_getElem (by omega)] at g1
  have g2 := hg 2 f2 rfl
  rw [k2, o2, h64, List.getElem?_eq_getElem (by omega)] at g2
  have g3 := hg 3 f3 rfl
  rw [k3, o3, hid, List.getElem?_eq_getElem (by omega)] at g3
  obtain ⟨s, e0, _, hsz⟩ := DataW.trod_string Try.underlying9 g0
  obtain ⟨z1, e1, _, w1⟩ := DataW.trod_int Try.underlying2 g1
  have b1 := bounds_i64 w1
  obtain ⟨z2, e2, _, w2⟩ := DataW.trod_int Try.underlying2 g2
  have b2 := bounds_i64 w2
  obtain ⟨n3, d3, hn, hd, e3⟩ := mark_of g3
  refine ⟨⟨s, z1, z2, n3, d3⟩, ?_, ⟨b1.1, by show z1 ≤ _; omega, b2.1, by show z2 ≤ _; omega, hn, hd⟩, by simpa [maxLen] using hsz⟩
  have c0 := cut_eqP (n := 1) 0 [_] rfl e0
  have c1 := cut_eqP (n := 1) 1 [_] rfl e1
  have c2 := cut_eqP (n := 1) 2 [_] rfl e2
  have c3 := cut_eqP (n := 2) 3 [_, _] rfl e3
  rw [List.drop_zero] at c0
  rw [c0, show 0 + 1 = 1 from rfl, c1, show 1 + 1 = 2 from rfl, c2, show 2 + 1 = 3 from rfl, c3, List.drop_eq_nil_of_le (by omega)]
  rfl
theorem open_pieces {H : Type} {enc : TypeId × Value → H} {W : World} {base : Nat} {v : Value} {d : DataW H} {p : List MemPlace} (hv : Value.okWide Try.prog W .any base 22 v)
    (h : DataW.Trod enc Try.prog W 0 (fun _ => true) true 22 v d p) :
    ∃ (A : Option Addr) (l : List Pc) (cap : Nat), v = .slice A l.length cap ∧ l.length ≤ cap ∧ l.length ≤ 9223372036854775807 ∧ (∀ p ∈ l, PcOk p ∧ p.s.size ≤ 9223372036854775807) ∧ RdP W W.heap.size A l := by
  have hC : Try.prog.cellsOf 33 = 5 := by kernel_rfl
  obtain ⟨A, len, cap, rfl⟩ := okWide_slice Try.underlying22 hv
  obtain ⟨fuel, hf⟩ := h
  rcases DataW.trod_slice Try.underlying22 hf with ⟨hcs, _⟩ | ⟨a, len', cap', elems, rest, n, _, hcs, _, hb, hl, hm, hlen, helem, _, _⟩
  · simp [Value.cells] at hcs
    obtain ⟨rfl, rfl, rfl⟩ := hcs
    exact ⟨none, [], 0, rfl, Nat.le_refl _, by simp, by simp, Rd.nil_ _ _ _⟩
  · simp [Value.cells] at hcs
    obtain ⟨rfl, rfl, rfl⟩ := hcs
    have key : ∀ m, m ≤ len → ∃ L : List Pc, L.length = m ∧ (∀ p ∈ L, PcOk p ∧ p.s.size ≤ 9223372036854775807) ∧ AtA W a (pcs L) := by
      intro m
      induction m with
      | zero => intro _; exact ⟨[], rfl, by simp, by intro j u hu; simp [pcs_nil] at hu⟩
      | succ m ih =>
        intro hm1
        obtain ⟨L, hL, hLs, hLc⟩ := ih (by omega)
        have he := helem m (by omega)
        have hem : elems[m]? = some (elems[m]'(by omega)) := List.getElem?_eq_getElem (by omega)
        rw [hem, hC, Option.bind_eq_some_iff] at he
        obtain ⟨cs', hcs', hy⟩ := he
        obtain ⟨q, rfl, hq⟩ := piece_of hy
        obtain ⟨_, _, hcell⟩ := World.cells?_some hcs'
        refine ⟨L ++ [q], by rw [List.length_append, hL]; rfl, fun c hc => (List.mem_append.1 hc).elim (hLs c) (fun h => by rw [List.mem_singleton.1 h]; exact hq), fun j u hu => ?_⟩
        rw [pcs_app] at hu
        rcases Nat.lt_or_ge j (m * 5) with hj | hj
        · rw [List.getElem?_append_left (by rw [pcs_len, hL]; exact hj)] at hu
          exact hLc j u hu
        · rw [List.getElem?_append_right (by rw [pcs_len, hL]; exact hj), pcs_len, hL, pcs_cons, pcs_nil, List.append_nil] at hu
          have hj2 : j - m * 5 < 5 := by
            rcases Nat.lt_or_ge (j - m * 5) 5 with h1 | h1
            · exact h1
            · rw [List.getElem?_eq_none (by simp [pcL]; omega)] at hu; cases hu
          have h2 := hcell (j - m * 5) hj2
          rw [Addr.add_add, show m * 5 + (j - m * 5) = j by omega] at h2
          rw [h2, hu]
    obtain ⟨L, hL, hLs, hLc⟩ := key len (Nat.le_refl _)
    refine ⟨some a, L, cap, by rw [hL], by rw [hL]; exact hl, by rw [hL]; simp only [maxLen] at hm; omega, hLs, fun hne => ?_⟩
    have h0 : 0 < (pcs L).length := by
      rcases Nat.eq_zero_or_pos (pcs L).length with h0 | h0
      · exact absurd (List.eq_nil_of_length_eq_zero h0) hne
      · exact h0
    have hc0 := hLc 0 _ (List.getElem?_eq_getElem h0)
    refine ⟨a, rfl, by have := cell_lt hc0; rwa [add_block] at this, hLc⟩
end Go.Proofs.Ytihbjnjpomljjaa
/- A piece that came in by value, opened. -/
namespace Go.Proofs.Ytihbjnjpomljjaa
set_option maxRecDepth 100000
open Go.ChangeShapes Go.WideShapes Go.ChangeAt Go.RowKit
set_option linter.unusedVariables false
theorem open_piece {H : Type} {enc : TypeId × Value → H} {W : World} {base : Nat} {v : Value} {d : DataW H} {p : List MemPlace} (hv : Value.okWide Try.prog W .any base 33 v)
    (h : DataW.Trod enc Try.prog W 0 (fun _ => true) true 33 v d p) :
    ∃ q : Pc, v = .agg (pcV q) ∧ PcOk q ∧ q.s.size ≤ 9223372036854775807 := by
  obtain ⟨cs, rfl, _⟩ := okWide_struct Try.underlying33 hv
  obtain ⟨fuel, hf⟩ := h
  simp only [Value.cells] at hf
  obtain ⟨q, e, h1, h2⟩ := piece_of hf
  exact ⟨q, by rw [pcV, ← e], h1, h2⟩
end Go.Proofs.Ytihbjnjpomljjaa
/- What pieces are merged to: plain. -/
namespace Go.Proofs.Ytihbjnjpomljjaa
open Go.RowKit
set_option linter.unusedVariables false
set_option linter.unusedSimpArgs false
theorem bless_trans : ∀ l m k : List UInt8, Op.bytesLess l m = true → Op.bytesLess m k = true → Op.bytesLess l k = true
  | [], _, [], h1, h2 => by
    rename_i m
    cases m <;> simp [Op.bytesLess] at h2
  | [], m, c :: k, _, _ => rfl
  | a :: l, [], k, h, _ => by simp [Op.bytesLess] at h
  | a :: l, b :: m, [], _, h => by simp [Op.bytesLess] at h
  | a :: l, b :: m, c :: k, h1, h2 => by
    rw [Op.bytesLess] at h1 h2 ⊢
    simp only [Bool.or_eq_true, Bool.and_eq_true, decide_eq_true_eq, beq_iff_eq] at h1 h2 ⊢
    rcases h1 with h1 | ⟨rfl, h1⟩ <;> rcases h2 with h2 | ⟨rfl, h2⟩
    · left; rw [UInt8.lt_iff_toNat_lt] at h1 h2 ⊢; omega
    · exact .inl h1
    · exact .inl h2
    · exact .inr ⟨rfl, bless_trans l m k h1 h2⟩
def samePl (a b : Pc) : Bool := (a.s.toList == b.s.toList) && (a.t == b.t)
theorem samePl_iff (a b : Pc) : samePl a b = true ↔ a.s = b.s ∧ a.t = b.t := by
  unfold samePl
  simp only [Bool.and_eq_true, beq_iff_eq]
  exact ⟨fun h => ⟨toList_inj h.1, h.2⟩, fun h => ⟨by rw [h.1], h.2⟩⟩
theorem okPair_iff (a b : Pc) : okPair a b = true ↔ ltS a.s b.s = true ∨ (a.s = b.s ∧ a.t < b.t) := by
  unfold okPair
  simp only [Bool.or_eq_true, Bool.and_eq_true, beq_iff_eq, decide_eq_true_eq]
  exact ⟨fun h => h.imp id (fun h => ⟨toList_inj h.1, h.2⟩), fun h => h.imp id (fun h => ⟨by rw [h.1], h.2⟩)⟩
theorem ltS_irr (s : ByteArray) : ltS s s = false := bless_irr _
theorem ltS_trans {a b c : ByteArray} (h1 : ltS a b = true) (h2 : ltS b c = true) : ltS a c = true := bless_trans _ _ _ h1 h2
theorem okPair_irr (a b : Pc) (h : samePl a b = true) : okPair a b = false := by
  rw [samePl_iff] at h
  cases hk : okPair a b with
  | false => rfl
  | true =>
    rw [okPair_iff] at hk
    rcases hk with h1 | h1
    · rw [h.1, ltS_irr] at h1; cases h1
    · have := h1.2; omega
theorem okPair_trans {a b c : Pc} (h1 : okPair a b = true) (h2 : okPair b c = true) : okPair a c = true := by
  rw [okPair_iff] at *
  rcases h1 with h1 | ⟨e1, h1⟩ <;> rcases h2 with h2 | ⟨e2, h2⟩
  · exact .inl (ltS_trans h1 h2)
  · left; rw [← e2]; exact h1
  · left; rw [e1]; exact h2
  · exact .inr ⟨e1.trans e2, by omega⟩
theorem okPair_tri {a b : Pc} (h1 : samePl a b = false) (h2 : okPair a b = false) : okPair b a = true := by
  rw [okPair_iff]
  have n1 : ¬ (a.s = b.s ∧ a.t = b.t) := fun h => by rw [(samePl_iff a b).2 h] at h1; cases h1
  have n2 : ¬ (ltS a.s b.s = true ∨ (a.s = b.s ∧ a.t < b.t)) := fun h => by rw [(okPair_iff a b).2 h] at h2; cases h2
  by_cases he : a.s = b.s
  · right
    refine ⟨he.symm, ?_⟩
    have m1 : ¬ a.t = b.t := fun h => n1 ⟨he, h⟩
    have m2 : ¬ a.t < b.t := fun h => n2 (.inr ⟨he, h⟩)
    omega
  · left
    have m2 : ltS a.s b.s = false := by
      cases h : ltS a.s b.s with
      | false => rfl
      | true => exact absurd (.inl h) n2
    exact bless_tri _ _ (fun h => he (toList_inj h)) m2
theorem samePl_comm (a b : Pc) : samePl a b = samePl b a := by
  rw [Bool.eq_iff_iff, samePl_iff, samePl_iff]
  exact ⟨fun h => ⟨h.1.symm, h.2.symm⟩, fun h => ⟨h.1.symm, h.2.symm⟩⟩
theorem samePl_refl (a : Pc) : samePl a a = true := (samePl_iff a a).2 ⟨rfl, rfl⟩
theorem samePl_trans {a b c : Pc} (h1 : samePl a b = true) (h2 : samePl b c = true) : samePl a c = true := by
  rw [samePl_iff] at *
  exact ⟨h1.1.trans h2.1, h1.2.trans h2.2⟩
theorem okPair_congr {a b c : Pc} (h : samePl a b = true) : okPair a c = okPair b c ∧ okPair c a = okPair c b := by
  rw [samePl_iff] at h
  constructor
  · rw [Bool.eq_iff_iff, okPair_iff, okPair_iff, h.1, h.2]
  · rw [Bool.eq_iff_iff, okPair_iff, okPair_iff, h.1, h.2]
/-- whether p counts more than q -/
def better (p q : Pc) : Bool := decide (q.n < p.n) || ((q.n == p.n) && (decide (q.d < p.d) || ((q.d == p.d) && decide (q.v < p.v))))
theorem better_iff (p q : Pc) : better p q = true ↔ q.n < p.n ∨ (q.n = p.n ∧ (q.d < p.d ∨ (q.d = p.d ∧ q.v < p.v))) := by
  unfold better
  simp only [Bool.or_eq_true, Bool.and_eq_true, beq_iff_eq, decide_eq_true_eq]
theorem better_no (p q : Pc) : better p q = false ↔ ¬ (q.n < p.n ∨ (q.n = p.n ∧ (q.d < p.d ∨ (q.d = p.d ∧ q.v < p.v)))) := by
  rw [← better_iff]; simp
theorem better_irr (p : Pc) : better p p = false := by rw [better_no]; omega
theorem better_asym {p q : Pc} (h : better p q = true) : better q p = false := by rw [better_iff] at h; rw [better_no]; omega
theorem better_trans {p q r : Pc} (h1 : better p q = true) (h2 : better q r = true) : better p r = true := by rw [better_iff] at *; omega
/-- r is not better than q, p is better than q: p is better than r -/
theorem better_over {p q r : Pc} (h1 : better p q = true) (h2 : better r q = false) : better p r = true := by rw [better_iff] at *; rw [better_no] at h2; omega
theorem better_ntrans {p q r : Pc} (h1 : better p q = false) (h2 : better q r = false) : better p r = false := by rw [better_no] at *; omega
theorem rank_eq {p q : Pc} (h0 : samePl p q = true) (h1 : better p q = false) (h2 : better q p = false) : p = q := by
  rw [samePl_iff] at h0
  rw [better_no] at h1 h2
  cases p with
  | mk s t v n d => cases q with
    | mk s' t' v' n' d' =>
      simp only at h0 h1 h2
      obtain ⟨rfl, rfl⟩ := h0
      have e1 : n = n' := by omega
      have e2 : d = d' := by omega
      have e3 : v = v' := by omega
      subst e1 e2 e3
      rfl
def insP (p : Pc) : List Pc → List Pc
  | [] => [p]
  | q :: M => if samePl q p then (if better p q then p :: M else q :: M) else if okPair q p then q :: insP p M else p :: q :: M
def mgTo (M : List Pc) : List Pc → List Pc
  | [] => M
  | p :: l => mgTo (if ckP p then insP p M else M) l
def mergeL (l : List Pc) : List Pc := mgTo [] l
theorem mgTo_app (M l m : List Pc) : mgTo M (l ++ m) = mgTo (mgTo M l) m := by
  induction l generalizing M with
  | nil => rfl
  | cons p l ih => rw [List.cons_append, mgTo, mgTo, ih]
def SortP (M : List Pc) : Prop := M.Pairwise fun a b => okPair a b = true
theorem ins_mem (p : Pc) : ∀ (M : List Pc) x, x ∈ insP p M → x = p ∨ x ∈ M
  | [], x, h => by simp [insP] at h; exact .inl h
  | q :: M, x, h => by
    rw [insP] at h
    split at h
    · split at h
      · rcases List.mem_cons.1 h with h | h
        · exact .inl h
        · exact .inr (List.mem_cons_of_mem _ h)
      · exact .inr h
    · split at h
      · rcases List.mem_cons.1 h with h | h
        · exact .inr (by rw [h]; exact List.mem_cons_self ..)
        · exact (ins_mem p M x h).imp id (List.mem_cons_of_mem _)
      · rcases List.mem_cons.1 h with h | h
        · exact .inl h
        · exact .inr h
theorem ins_sorted (p : Pc) : ∀ {M : List Pc}, SortP M → SortP (insP p M)
  | [], _ => by unfold SortP; simp [insP]
  | q :: M, h => by
    obtain ⟨h1, h2⟩ := List.pairwise_cons.1 h
    rw [insP]
    by_cases hs : samePl q p = true
    · rw [if_pos hs]
      split
      · refine List.pairwise_cons.2 ⟨fun x hx => ?_, h2⟩
        rw [← (okPair_congr hs).1]
        exact h1 x hx
      · exact h
    · rw [if_neg hs]
      have hsf : samePl q p = false := by simpa using hs
      by_cases ho : okPair q p = true
      · rw [if_pos ho]
        refine List.pairwise_cons.2 ⟨fun x hx => ?_, ins_sorted p h2⟩
        rcases ins_mem p M x hx with rfl | hx
        · exact ho
        · exact h1 x hx
      · rw [if_neg ho]
        have hpq := okPair_tri hsf (by simpa using ho)
        refine List.pairwise_cons.2 ⟨fun x hx => ?_, h⟩
        rcases List.mem_cons.1 hx with rfl | hx
        · exact hpq
        · exact okPair_trans hpq (h1 x hx)
/-- who stands in the list behind an insertion -/
theorem mem_ins (p : Pc) : ∀ {M : List Pc}, SortP M → ∀ x, x ∈ insP p M ↔ (x ∈ M ∧ (samePl x p = true → better p x = false)) ∨ (x = p ∧ ∀ q ∈ M, samePl q p = true → better p q = true)
  | [], _, x => by simp [insP]
  | q :: M, h, x => by
    obtain ⟨h1, h2⟩ := List.pairwise_cons.1 h
    rw [insP]
    by_cases hs : samePl q p = true
    · rw [if_pos hs]
      -- nobody else has this place
      have hno : ∀ y ∈ M, samePl y p = false := fun y hy => by
        cases hyp : samePl y p with
        | false => rfl
        | true =>
          have hqy : samePl q y = true := samePl_trans hs (by rw [samePl_comm]; exact hyp)
          have := okPair_irr q y hqy
          rw [h1 y hy] at this
          cases this
      by_cases hb : better p q = true
      · rw [if_pos hb]
        constructor
        · intro hx
          rcases List.mem_cons.1 hx with rfl | hx
          · refine .inr ⟨rfl, fun y hy hyp => ?_⟩
            rcases List.mem_cons.1 hy with rfl | hy
            · exact hb
            · rw [hno y hy] at hyp; cases hyp
          · exact .inl ⟨List.mem_cons_of_mem _ hx, fun hxp => by rw [hno x hx] at hxp; cases hxp⟩
        · rintro (⟨hx, hxb⟩ | ⟨rfl, _⟩)
          · rcases List.mem_cons.1 hx with rfl | hx
            · rw [hxb hs] at hb; cases hb
            · exact List.mem_cons_of_mem _ hx
          · exact List.mem_cons_self ..
      · rw [if_neg hb]
        have hbf : better p q = false := by simpa using hb
        constructor
        · intro hx
          refine .inl ⟨hx, fun hxp => ?_⟩
          rcases List.mem_cons.1 hx with rfl | hx
          · exact hbf
          · rw [hno x hx] at hxp; cases hxp
        · rintro (⟨hx, _⟩ | ⟨rfl, hall⟩)
          · exact hx
          · exact absurd (hall q (List.mem_cons_self ..) hs) hb
    · rw [if_neg hs]
      have hsf : samePl q p = false := by simpa using hs
      by_cases ho : okPair q p = true
      · rw [if_pos ho, List.mem_cons, mem_ins p h2 x]
        constructor
        · rintro (rfl | ⟨hx, hxb⟩ | ⟨rfl, hall⟩)
          · exact .inl ⟨List.mem_cons_self .., fun hxp => by rw [hsf] at hxp; cases hxp⟩
          · exact .inl ⟨List.mem_cons_of_mem _ hx, hxb⟩
          · refine .inr ⟨rfl, fun y hy hyp => ?_⟩
            rcases List.mem_cons.1 hy with rfl | hy
            · rw [hsf] at hyp; cases hyp
            · exact hall y hy hyp
        · rintro (⟨hx, hxb⟩ | ⟨rfl, hall⟩)
          · rcases List.mem_cons.1 hx with rfl | hx
            · exact .inl rfl
            · exact .inr (.inl ⟨hx, hxb⟩)
          · exact .inr (.inr ⟨rfl, fun y hy hyp => hall y (List.mem_cons_of_mem _ hy) hyp⟩)
      · rw [if_neg ho]
        have hpq := okPair_tri hsf (by simpa using ho)
        -- all of them stand behind p
        have hno : ∀ y ∈ q :: M, samePl y p = false := fun y hy => by
          have hpy : okPair p y = true := by
            rcases List.mem_cons.1 hy with rfl | hy
            · exact hpq
            · exact okPair_trans hpq (h1 y hy)
          cases hyp : samePl y p with
          | false => rfl
          | true =>
            have := okPair_irr p y (by rw [samePl_comm]; exact hyp)
            rw [hpy] at this
            cases this
        constructor
        · intro hx
          rcases List.mem_cons.1 hx with rfl | hx
          · exact .inr ⟨rfl, fun y hy hyp => by rw [hno y hy] at hyp; cases hyp⟩
          · exact .inl ⟨hx, fun hxp => by rw [hno x hx] at hxp; cases hxp⟩
        · rintro (⟨hx, _⟩ | ⟨rfl, _⟩)
          · exact List.mem_cons_of_mem _ hx
          · exact List.mem_cons_self ..
/-- the piece that counts at its place -/
def IsWin (L : List Pc) (x : Pc) : Prop := x ∈ L ∧ ckP x = true ∧ ∀ q ∈ L, ckP q = true → samePl q x = true → better q x = false
theorem exists_win : ∀ (pre : List Pc) (q : Pc), q ∈ pre → ckP q = true → ∃ w0, IsWin pre w0 ∧ samePl w0 q = true ∧ better q w0 = false := by
  intro pre
  induction pre with
  | nil => intro q hq; cases hq
  | cons p pre ih =>
    intro q hq hcq
    -- the best of those that stand at q's place
    have hbest : ∃ w1, w1 ∈ p :: pre ∧ ckP w1 = true ∧ samePl w1 q = true ∧ (∀ y ∈ p :: pre, ckP y = true → samePl y q = true → better y w1 = false) := by
      by_cases hin : ∃ y ∈ pre, ckP y = true ∧ samePl y q = true
      · obtain ⟨y, hy, hcy, hyq⟩ := hin
        obtain ⟨w0, ⟨b1, b2, b3⟩, c1, c2⟩ := ih y hy hcy
        have hwq : samePl w0 q = true := samePl_trans c1 hyq
        by_cases hp : ckP p = true ∧ samePl p q = true ∧ better p w0 = true
        · refine ⟨p, List.mem_cons_self .., hp.1, hp.2.1, fun z hz hcz hzq => ?_⟩
          rcases List.mem_cons.1 hz with rfl | hz
          · exact better_irr _
          · have h3 := b3 z hz hcz (samePl_trans hzq (by rw [samePl_comm]; exact hwq))
            exact better_asym (better_over hp.2.2 h3)
        · refine ⟨w0, List.mem_cons_of_mem _ b1, b2, hwq, fun z hz hcz hzq => ?_⟩
          rcases List.mem_cons.1 hz with rfl | hz
          · cases hbz : better z w0 with
            | false => rfl
            | true => exact absurd ⟨hcz, hzq, hbz⟩ hp
          · exact b3 z hz hcz (samePl_trans hzq (by rw [samePl_comm]; exact hwq))
      · rcases List.mem_cons.1 hq with rfl | hq
        · refine ⟨q, List.mem_cons_self .., hcq, samePl_refl q, fun z hz hcz hzq => ?_⟩
          rcases List.mem_cons.1 hz with rfl | hz
          · exact better_irr _
          · exact absurd ⟨z, hz, hcz, hzq⟩ hin
        · exact absurd ⟨q, hq, hcq, samePl_refl q⟩ hin
    obtain ⟨w1, d1, d2, d3, d4⟩ := hbest
    refine ⟨w1, ⟨d1, d2, fun z hz hcz hzw => d4 z hz hcz (samePl_trans hzw d3)⟩, d3, d4 q hq hcq (samePl_refl q)⟩
theorem mgTo_spec : ∀ (l pre M : List Pc), SortP M → (∀ x, x ∈ M ↔ IsWin pre x) → SortP (mgTo M l) ∧ ∀ x, x ∈ mgTo M l ↔ IsWin (pre ++ l) x
  | [], pre, M, h1, h2 => by rw [List.append_nil]; exact ⟨h1, h2⟩
  | p :: l, pre, M, h1, h2 => by
    rw [mgTo]
    have e : pre ++ p :: l = (pre ++ [p]) ++ l := by simp
    rw [e]
    by_cases hc : ckP p = true
    · rw [if_pos hc]
      refine mgTo_spec l (pre ++ [p]) _ (ins_sorted p h1) (fun x => ?_)
      rw [mem_ins p h1 x]
      constructor
      · rintro (⟨hx, hb⟩ | ⟨rfl, hall⟩)
        · obtain ⟨a1, a2, a3⟩ := (h2 x).1 hx
          refine ⟨List.mem_append_left _ a1, a2, fun q hq hcq hqx => ?_⟩
          rcases List.mem_append.1 hq with hq | hq
          · exact a3 q hq hcq hqx
          · obtain rfl := List.mem_singleton.1 hq
            exact hb (by rw [samePl_comm]; exact hqx)
        · refine ⟨List.mem_append_right _ (by simp), hc, fun q hq hcq hqx => ?_⟩
          rcases List.mem_append.1 hq with hq | hq
          · -- the winner at that place is beaten by x; q does not beat the winner
            obtain ⟨w0, hw0, hqw⟩ := exists_win pre q hq hcq
            have hw1 : samePl w0 x = true := samePl_trans hqw.1 hqx
            have hb := hall w0 ((h2 w0).2 hw0) hw1
            cases hqb : better q x with
            | false => rfl
            | true =>
              have h3 := better_trans hqb hb
              rw [hqw.2] at h3
              cases h3
          · obtain rfl := List.mem_singleton.1 hq
            exact better_irr _
      · rintro ⟨a1, a2, a3⟩
        rcases List.mem_append.1 a1 with hx | hx
        · left
          refine ⟨(h2 x).2 ⟨hx, a2, fun q hq => a3 q (List.mem_append_left _ hq)⟩, fun hxp => ?_⟩
          exact a3 p (List.mem_append_right _ (by simp)) hc (by rw [samePl_comm]; exact hxp)
        · obtain rfl := List.mem_singleton.1 hx
          by_cases hin : ∃ q ∈ M, samePl q x = true ∧ better x q = false
          · obtain ⟨q, hq, hqx, hqb⟩ := hin
            have hqw := (h2 q).1 hq
            have hxq := a3 q (List.mem_append_left _ hqw.1) hqw.2.1 hqx
            have heq := rank_eq hqx hxq hqb
            subst heq
            exact .inl ⟨hq, fun _ => better_irr _⟩
          · right
            refine ⟨rfl, fun q hq hqx => ?_⟩
            cases hb : better x q with
            | true => rfl
            | false => exact absurd ⟨q, hq, hqx, hb⟩ hin
    · rw [if_neg hc]
      refine mgTo_spec l (pre ++ [p]) _ h1 (fun x => ?_)
      rw [h2 x]
      constructor
      · rintro ⟨a1, a2, a3⟩
        refine ⟨List.mem_append_left _ a1, a2, fun q hq hcq hqx => ?_⟩
        rcases List.mem_append.1 hq with hq | hq
        · exact a3 q hq hcq hqx
        · obtain rfl := List.mem_singleton.1 hq
          exact absurd hcq hc
      · rintro ⟨a1, a2, a3⟩
        refine ⟨?_, a2, fun q hq => a3 q (List.mem_append_left _ hq)⟩
        rcases List.mem_append.1 a1 with hx | hx
        · exact hx
        · obtain rfl := List.mem_singleton.1 hx
          exact absurd a2 hc
theorem merge_sorted (L : List Pc) : SortP (mergeL L) := (mgTo_spec L [] [] List.Pairwise.nil (fun x => by simp [IsWin])).1
theorem mem_merge (L : List Pc) (x : Pc) : x ∈ mergeL L ↔ IsWin L x := by
  have h := (mgTo_spec L [] [] List.Pairwise.nil (fun x => by simp [IsWin])).2 x
  rwa [List.nil_append] at h
/-- sorted lists of the same members are one -/
theorem sort_uniq : ∀ {M N : List Pc}, SortP M → SortP N → (∀ x, x ∈ M ↔ x ∈ N) → M = N
  | [], [], _, _, _ => rfl
  | [], b :: N, _, _, h => absurd ((h b).2 (List.mem_cons_self ..)) (by simp)
  | a :: M, [], _, _, h => absurd ((h a).1 (List.mem_cons_self ..)) (by simp)
  | a :: M, b :: N, h1, h2, h => by
    obtain ⟨p1, p2⟩ := List.pairwise_cons.1 h1
    obtain ⟨q1, q2⟩ := List.pairwise_cons.1 h2
    have hab : a = b := by
      rcases List.mem_cons.1 ((h a).1 (List.mem_cons_self ..)) with ha | ha
      · exact ha
      · rcases List.mem_cons.1 ((h b).2 (List.mem_cons_self ..)) with hb | hb
        · exact hb.symm
        · have h3 := okPair_trans (p1 b hb) (q1 a ha)
          rw [okPair_irr a a (samePl_refl a)] at h3
          cases h3
    subst hab
    have hirr : ∀ {K : List Pc}, (∀ y ∈ K, okPair a y = true) → a ∉ K := fun hK ha => by
      have := hK a ha
      rw [okPair_irr a a (samePl_refl a)] at this
      cases this
    rw [sort_uniq p2 q2 fun x => by
      constructor
      · intro hx
        rcases List.mem_cons.1 ((h x).1 (List.mem_cons_of_mem _ hx)) with rfl | h3
        · exact absurd hx (hirr p1)
        · exact h3
      · intro hx
        rcases List.mem_cons.1 ((h x).2 (List.mem_cons_of_mem _ hx)) with rfl | h3
        · exact absurd hx (hirr q1)
        · exact h3]
theorem win_of_mem {L K : List Pc} (h : ∀ x, x ∈ L ↔ x ∈ K) (x : Pc) : IsWin L x ↔ IsWin K x := by
  unfold IsWin
  rw [h x]
  constructor
  · rintro ⟨a, b, c⟩; exact ⟨a, b, fun q hq => c q ((h q).2 hq)⟩
  · rintro ⟨a, b, c⟩; exact ⟨a, b, fun q hq => c q ((h q).1 hq)⟩
/-- it hangs on who is there alone -/
theorem merge_of_mem {L K : List Pc} (h : ∀ x, x ∈ L ↔ x ∈ K) : mergeL L = mergeL K :=
  sort_uniq (merge_sorted L) (merge_sorted K) fun x => by rw [mem_merge, mem_merge, win_of_mem h]
/-- what is merged may be merged ahead -/
theorem merge_ahead (L K : List Pc) : mergeL (mergeL L ++ K) = mergeL (L ++ K) :=
  sort_uniq (merge_sorted _) (merge_sorted _) fun x => by
    rw [mem_merge, mem_merge]
    constructor
    · rintro ⟨a, b, c⟩
      have c' : ∀ q ∈ L ++ K, ckP q = true → samePl q x = true → better q x = false := fun q hq hcq hqx => by
        rcases List.mem_append.1 hq with hq | hq
        · obtain ⟨w0, hw, h1, h2⟩ := exists_win L q hq hcq
          have h3 := c w0 (List.mem_append_left _ ((mem_merge L w0).2 hw)) hw.2.1 (samePl_trans h1 hqx)
          exact better_ntrans h2 h3
        · exact c q (List.mem_append_right _ hq) hcq hqx
      refine ⟨?_, b, c'⟩
      rcases List.mem_append.1 a with ha | ha
      · exact List.mem_append_left _ ((mem_merge L x).1 ha).1
      · exact List.mem_append_right _ ha
    · rintro ⟨a, b, c⟩
      refine ⟨?_, b, fun q hq hcq hqx => ?_⟩
      · rcases List.mem_append.1 a with ha | ha
        · exact List.mem_append_left _ ((mem_merge L x).2 ⟨ha, b, fun q hq => c q (List.mem_append_left _ hq)⟩)
        · exact List.mem_append_right _ ha
      · rcases List.mem_append.1 hq with hq | hq
        · exact c q (List.mem_append_left _ ((mem_merge L q).1 hq).1) hcq hqx
        · exact c q (List.mem_append_right _ hq) hcq hqx
theorem merge_behind (L K : List Pc) : mergeL (K ++ mergeL L) = mergeL (K ++ L) := by
  rw [merge_of_mem (K := mergeL L ++ K) (fun x => by simp [or_comm]), merge_ahead, merge_of_mem (K := K ++ L) (fun x => by simp [or_comm])]
theorem merge_self (L : List Pc) : mergeL (mergeL L ++ mergeL L) = mergeL L := by
  rw [merge_ahead, merge_behind]
  exact merge_of_mem (fun x => by simp)
theorem merge_sub (L : List Pc) : ∀ x ∈ mergeL L, x ∈ L := fun x hx => ((mem_merge L x).1 hx).1
theorem sort_nodup {M : List Pc} (h : SortP M) : M.Nodup := by
  unfold List.Nodup
  exact List.Pairwise.imp (fun {a b} h e => by rw [e, okPair_irr b b (samePl_refl b)] at h; cases h) h
theorem ins_len (p : Pc) : ∀ M : List Pc, (insP p M).length ≤ M.length + 1
  | [] => by simp [insP]
  | q :: M => by
    rw [insP]
    split
    · split <;> simp
    · split
      · have := ins_len p M; simp only [List.length_cons]; omega
      · simp
theorem mgTo_len : ∀ (l M : List Pc), (mgTo M l).length ≤ M.length + l.length
  | [], M => by simp [mgTo]
  | p :: l, M => by
    rw [mgTo]
    have h1 := mgTo_len l (if ckP p then insP p M else M)
    have h2 := ins_len p M
    simp only [List.length_cons]
    by_cases hc : ckP p = true
    · rw [if_pos hc] at h1 ⊢; omega
    · rw [if_neg hc] at h1 ⊢; omega
theorem merge_len (L : List Pc) : (mergeL L).length ≤ L.length := by
  have := mgTo_len L []
  simpa [mergeL] using this
end Go.Proofs.Ytihbjnjpomljjaa
/- How merged pieces are cut into groups: plain. -/
namespace Go.Proofs.Ytihbjnjpomljjaa
set_option maxRecDepth 100000
open Go.RowKit
set_option linter.unusedVariables false
set_option linter.unusedSimpArgs false
def cutFrom (M : List Pc) (n : Nat) : Nat := if n < M.length then (if chkL (M.take (n + 1)) = 0 then cutFrom M (n + 1) else n) else M.length
termination_by M.length - n
decreasing_by omega
theorem cutFrom_le (M : List Pc) (n : Nat) (h : n ≤ M.length) : n ≤ cutFrom M n ∧ cutFrom M n ≤ M.length := by
  rw [cutFrom]
  by_cases h1 : n < M.length
  · rw [if_pos h1]
    by_cases h2 : chkL (M.take (n + 1)) = 0
    · rw [if_pos h2]
      have := cutFrom_le M (n + 1) (by omega)
      omega
    · rw [if_neg h2]; omega
  · rw [if_neg h1]; omega
termination_by M.length - n
decreasing_by omega
theorem cutFrom_ok (M : List Pc) (n : Nat) : ∀ k, n ≤ k → k < cutFrom M n → k < M.length → chkL (M.take (k + 1)) = 0 := by
  intro k h1 h2 h3
  rw [cutFrom] at h2
  rw [if_pos (show n < M.length by omega)] at h2
  by_cases h4 : chkL (M.take (n + 1)) = 0
  · rw [if_pos h4] at h2
    by_cases h5 : k = n
    · rw [h5]; exact h4
    · exact cutFrom_ok M (n + 1) k (by omega) h2 h3
  · rw [if_neg h4] at h2; omega
termination_by M.length - n
decreasing_by omega
theorem cutFrom_bad (M : List Pc) (n : Nat) (h : cutFrom M n < M.length) (hn : n ≤ M.length) : chkL (M.take (cutFrom M n + 1)) ≠ 0 := by
  rw [cutFrom] at h ⊢
  by_cases h1 : n < M.length
  · rw [if_pos h1] at h ⊢
    by_cases h2 : chkL (M.take (n + 1)) = 0
    · rw [if_pos h2] at h ⊢
      exact cutFrom_bad M (n + 1) h (by omega)
    · rw [if_neg h2]; exact h2
  · rw [if_neg h1] at h; omega
termination_by M.length - n
decreasing_by omega
def cutN (M : List Pc) : Nat := cutFrom M 1
theorem cutN_pos {M : List Pc} (h : 0 < M.length) : 1 ≤ cutN M ∧ cutN M ≤ M.length := cutFrom_le M 1 h
def cutG (M : List Pc) : List (List Pc) := if h : 0 < M.length then M.take (cutN M) :: cutG (M.drop (cutN M)) else []
termination_by M.length
decreasing_by
  have := (cutN_pos h).1
  rw [List.length_drop]
  omega
theorem cutG_nil {M : List Pc} (h : ¬ 0 < M.length) : cutG M = [] := by rw [cutG, dif_neg h]
theorem cutG_cons {M : List Pc} (h : 0 < M.length) : cutG M = M.take (cutN M) :: cutG (M.drop (cutN M)) := by rw [cutG, dif_pos h]
theorem cut_ind {motive : List Pc → Prop} (h0 : ∀ M, ¬ 0 < M.length → motive M) (h1 : ∀ M, 0 < M.length → motive (M.drop (cutN M)) → motive M) : ∀ M, motive M := by
  intro M
  by_cases h : 0 < M.length
  · exact h1 M h (cut_ind h0 h1 _)
  · exact h0 M h
termination_by M => M.length
decreasing_by
  have := (cutN_pos h).1
  rw [List.length_drop]
  omega
theorem cut_flat : ∀ M, (cutG M).flatten = M :=
  cut_ind (fun M h => by rw [cutG_nil h]; exact (List.eq_nil_of_length_eq_zero (by omega)).symm) (fun M h ih => by
    rw [cutG_cons h, List.flatten_cons, ih, List.take_append_drop])
theorem chk_one {p : Pc} (h : ckP p = true) : chkL [p] = 0 := by
  have hs : 1 ≤ p.s.size ∧ p.s.size ≤ 200 := by
    unfold ckP at h
    simpa only [Bool.and_eq_true, decide_eq_true_eq] using h
  have hg : roomL [p] = 42 + p.s.size := by
    unfold roomL grps
    rw [gls_cons]
    simp [run1, gls_nil, cutsL, roomG]
    omega
  unfold chkL
  rw [hg, if_neg (by simp; omega), if_pos]
  unfold okTo okAt
  simp [h]
theorem cut_ok : ∀ M, SortP M → (∀ p ∈ M, ckP p = true) → ∀ g ∈ cutG M, chkL g = 0 ∧ 0 < g.length :=
  cut_ind (motive := fun M => SortP M → (∀ p ∈ M, ckP p = true) → ∀ g ∈ cutG M, chkL g = 0 ∧ 0 < g.length) (fun M h _ _ g hg => by rw [cutG_nil h] at hg; cases hg) (fun M h ih hS hk g hg => by
    obtain ⟨h1, h2⟩ := cutN_pos h
    rw [cutG_cons h] at hg
    rcases List.mem_cons.1 hg with rfl | hg
    · refine ⟨?_, by rw [List.length_take]; omega⟩
      by_cases h3 : cutN M = 1
      · rw [h3]
        cases M with
        | nil => cases h
        | cons p M => exact chk_one (hk p (List.mem_cons_self ..))
      · have := cutFrom_ok M 1 (cutN M - 1) (by omega) (by show cutN M - 1 < cutN M; omega) (by omega)
        rwa [show cutN M - 1 + 1 = cutN M by omega] at this
    · exact ih (List.Pairwise.sublist (List.drop_sublist _ _) hS) (fun p hp => hk p (List.mem_of_mem_drop hp)) g hg)
theorem cut_next : ∀ M, ∀ i, i + 1 < (cutG M).length → chkL ((cutG M).getD i [] ++ [((cutG M).getD (i + 1) []).getD 0 pc0]) ≠ 0 :=
  cut_ind (motive := fun M => ∀ i, i + 1 < (cutG M).length → chkL ((cutG M).getD i [] ++ [((cutG M).getD (i + 1) []).getD 0 pc0]) ≠ 0) (fun M h i hi => by rw [cutG_nil h] at hi; simp at hi) (fun M h ih i hi => by
    obtain ⟨h1, h2⟩ := cutN_pos h
    rw [cutG_cons h] at hi ⊢
    cases i with
    | succ i =>
      rw [List.getD_cons_succ, List.getD_cons_succ]
      exact ih i (by simpa using hi)
    | zero =>
      rw [List.getD_cons_zero, List.getD_cons_succ]
      by_cases h3 : 0 < (M.drop (cutN M)).length
      · rw [cutG_cons h3, List.getD_cons_zero]
        have hlt : cutN M < M.length := by rw [List.length_drop] at h3; omega
        have hb := cutFrom_bad M 1 hlt h
        have e : M.take (cutN M + 1) = M.take (cutN M) ++ [((M.drop (cutN M)).take (cutN (M.drop (cutN M)))).getD 0 pc0] := by
          have h4 := (cutN_pos h3).1
          rw [List.take_add_one, List.getElem?_eq_getElem hlt]
          congr 1
          rw [List.getD_eq_getElem?_getD, List.getElem?_take_of_lt (by omega), List.getElem?_drop, Nat.add_zero, List.getElem?_eq_getElem hlt]
          rfl
        rw [← e]
        exact hb
      · rw [cutG_nil h3] at hi
        simp at hi)
theorem chk_vals (l : List Pc) : chkL l = 0 ∨ chkL l = 1 ∨ chkL l = 3 := by
  unfold chkL
  split
  · exact .inr (.inr rfl)
  · split
    · exact .inl rfl
    · exact .inr (.inl rfl)
theorem cutFrom_go {M : List Pc} {n : Nat} (h : n < M.length) (h0 : chkL (M.take (n + 1)) = 0) : cutFrom M n = cutFrom M (n + 1) := by
  rw [cutFrom, if_pos h, if_pos h0]
theorem cutFrom_here {M : List Pc} {n : Nat} (h : n < M.length) (h0 : chkL (M.take (n + 1)) ≠ 0) : cutFrom M n = n := by
  rw [cutFrom, if_pos h, if_neg h0]
theorem cutFrom_end {M : List Pc} {n : Nat} (h : ¬ n < M.length) : cutFrom M n = M.length := by
  rw [cutFrom, if_neg h]
/-- a sorted list of pieces that may be is merged -/
theorem merge_id {M : List Pc} (hS : SortP M) (hk : ∀ p ∈ M, ckP p = true) : mergeL M = M :=
  sort_uniq (merge_sorted M) hS fun x => by
    rw [mem_merge]
    constructor
    · exact fun h => h.1
    · intro hx
      refine ⟨hx, hk x hx, fun q hq _ hqx => ?_⟩
      have hone : ∀ {M : List Pc}, SortP M → ∀ {a b : Pc}, a ∈ M → b ∈ M → samePl a b = true → a = b := by
        intro M
        induction M with
        | nil => intro _ a b ha; cases ha
        | cons c M ih =>
          intro hS a b ha hb hab
          obtain ⟨h1, h2⟩ := List.pairwise_cons.1 hS
          rcases List.mem_cons.1 ha with e1 | ha2
          · rcases List.mem_cons.1 hb with e2 | hb2
            · exact e1.trans e2.symm
            · have := h1 b hb2
              rw [← e1, okPair_irr a b hab] at this
              cases this
          · rcases List.mem_cons.1 hb with e2 | hb2
            · have := h1 a ha2
              rw [← e2, okPair_irr b a (by rw [samePl_comm]; exact hab)] at this
              cases this
            · exact ih h2 ha2 hb2 hab
      rw [hone hS hq hx hqx]
      exact better_irr _
end Go.Proofs.Ytihbjnjpomljjaa
/- The document's example of block.Cut: 300 pieces of one series: plain. -/
namespace Go.Proofs.Ytihbjnjpomljjaa
set_option maxRecDepth 100000
open Go.RowKit
set_option linter.unusedVariables false
set_option linter.unusedSimpArgs false
def aS : ByteArray := ⟨#[97]⟩
def awP (i : Nat) : Pc := ⟨aS, (i : Int), 0, 0, 0⟩
def awL (a n : Nat) : List Pc := (List.range' a n).map awP
theorem awL_len (a n : Nat) : (awL a n).length = n := by simp [awL]
theorem awL_get (a n k : Nat) (h : k < n) : (awL a n).getD k pc0 = awP (a + k) := by
  rw [List.getD_eq_getElem?_getD, List.getElem?_eq_getElem (by rw [awL_len]; exact h)]
  simp [awL]
theorem awL_take (a n k : Nat) (h : k ≤ n) : (awL a n).take k = awL a k := by
  apply List.ext_getElem
  · rw [List.length_take, awL_len, awL_len]; omega
  · intro i h1 h2
    rw [awL_len] at h2
    simp [awL]
theorem awL_drop (a n k : Nat) (h : k ≤ n) : (awL a n).drop k = awL (a + k) (n - k) := by
  apply List.ext_getElem
  · rw [List.length_drop, awL_len, awL_len]
  · intro i h1 h2
    rw [List.getElem_drop]
    simp only [awL, List.getElem_map, List.getElem_range']
    rw [show a + 1 * (k + i) = a + k + 1 * i by omega]
theorem awL_snoc (n : Nat) : awL 0 (n + 1) = awL 0 n ++ [awP n] := by
  unfold awL
  rw [List.range'_1_concat, List.map_append, Nat.zero_add]
  rfl
theorem aS_size : aS.size = 1 := rfl
theorem room_aw (a n : Nat) : ∀ k, k ≤ n → roomTo (awL a n) k = 4 + (if k = 0 then 0 else 7) + 32 * k
  | 0, _ => by rw [roomTo_zero]; rfl
  | k + 1, h => by
    rw [roomTo_succ _ _ (by rw [awL_len]; omega), room_aw a n k (by omega), awL_get _ _ _ (by omega)]
    by_cases h0 : k = 0
    · subst h0
      simp [awP, aS_size]
    · rw [awL_get _ _ _ (by omega)]
      simp [h0, awP]
      omega
theorem ok_aw (a n : Nat) : okTo (awL a n) n = true := by
  unfold okTo
  rw [List.all_eq_true]
  intro i hi
  rw [List.mem_range] at hi
  unfold okAt
  rw [awL_get _ _ _ hi, Bool.and_eq_true]
  refine ⟨by unfold ckP awP; simp [aS_size], ?_⟩
  by_cases h0 : i = 0
  · simp [h0]
  · rw [awL_get _ _ _ (by omega)]
    unfold okPair awP
    simp
    omega
theorem chk_aw (a n : Nat) (h : 0 < n) : chkL (awL a n) = 0 ↔ n ≤ 127 := by
  have hr : roomL (awL a n) = 11 + 32 * n := by
    rw [← roomTo_all, awL_len, room_aw a n n (Nat.le_refl _), if_neg (by omega)]
  have hok := ok_aw a n
  unfold chkL
  rw [hr, awL_len, hok]
  constructor
  · intro h1
    split at h1
    · cases h1
    · omega
  · intro h1
    rw [if_neg (by omega)]
    rfl
theorem cutFrom_to (M : List Pc) : ∀ d n, (∀ j, n ≤ j → j < n + d → chkL (M.take (j + 1)) = 0) → n + d ≤ M.length → cutFrom M n = cutFrom M (n + d)
  | 0, _, _, _ => rfl
  | d + 1, n, h, hl => by
    rw [cutFrom_go (by omega) (h n (Nat.le_refl _) (by omega)), cutFrom_to M d (n + 1) (fun j h1 h2 => h j (by omega) (by omega)) (by omega)]
    congr 1
    omega
theorem cutN_aw (a n : Nat) (h : 0 < n) : cutN (awL a n) = min n 127 := by
  unfold cutN
  rw [cutFrom_to _ (min n 127 - 1) 1 (fun j h1 h2 => by
    rw [awL_take _ _ _ (by omega), chk_aw _ _ (by omega)]; omega) (by rw [awL_len]; omega)]
  rw [show 1 + (min n 127 - 1) = min n 127 by omega]
  by_cases h1 : n ≤ 127
  · rw [Nat.min_eq_left h1, cutFrom_end (by rw [awL_len]; omega), awL_len]
  · rw [Nat.min_eq_right (by omega), cutFrom_here (by rw [awL_len]; omega)]
    rw [awL_take _ _ _ (by omega), ne_eq, chk_aw _ _ (by omega)]
    omega
theorem cutG_aw : cutG (awL 0 300) = [awL 0 127, awL 127 127, awL 254 46] := by
  rw [cutG_cons (by rw [awL_len]; decide), cutN_aw _ _ (by decide), awL_take _ _ _ (by decide), awL_drop _ _ _ (by decide)]
  rw [cutG_cons (by rw [awL_len]; decide), cutN_aw _ _ (by decide), awL_take _ _ _ (by decide), awL_drop _ _ _ (by decide)]
  rw [cutG_cons (by rw [awL_len]; decide), cutN_aw _ _ (by decide), awL_take _ _ _ (by decide), awL_drop _ _ _ (by decide)]
  rw [cutG_nil (by rw [awL_len]; decide)]
  rfl
theorem aw_one {p : Pc} {a n : Nat} (h : p ∈ awL a n) : ∃ i, i < n ∧ p = awP (a + i) := by
  obtain ⟨i, hi, e⟩ := List.getElem_of_mem h
  rw [awL_len] at hi
  refine ⟨i, hi, ?_⟩
  rw [← e]
  simp [awL]
theorem aw_sorted (a n : Nat) : SortP (awL a n) := by
  refine List.pairwise_iff_getElem.2 fun i j hi hj hij => ?_
  rw [awL_len] at hi hj
  simp only [awL, List.getElem_map, List.getElem_range']
  unfold okPair awP
  simp
  omega
theorem aw_merge300 : cutG (mergeL (awL 0 300)) = [awL 0 127, awL 127 127, awL 254 46] := by
  rw [merge_id (aw_sorted _ _) (fun p hp => by obtain ⟨i, _, rfl⟩ := aw_one hp; unfold ckP awP; simp [aS_size]), cutG_aw]
theorem aw_okP {p : Pc} {a n : Nat} (h : p ∈ awL a n) (hn : a + n ≤ 300) : PcOk p ∧ p.s.size ≤ 9223372036854775807 := by
  obtain ⟨i, hi, rfl⟩ := aw_one h
  refine ⟨⟨by show -9223372036854775808 ≤ ((a + i : Nat) : Int); omega, by show ((a + i : Nat) : Int) ≤ 9223372036854775807; omega, by show (-9223372036854775808 : Int) ≤ 0; decide, by show (0 : Int) ≤ 9223372036854775807; decide, by show 0 < 18446744073709551616; decide, by show 0 < 65536; decide⟩, ?_⟩
  show aS.size ≤ _
  rw [aS_size]
  omega
end Go.Proofs.Ytihbjnjpomljjaa
/- Contracts: whether a piece may be; the document's room. -/
namespace Go.Proofs.Ytihbjnjpomljjaa
set_option maxRecDepth 100000
open Go.RowKit
set_option linter.unusedVariables false
set_option linter.unusedSimpArgs false
def pcE (p : Pc) : Int := if ckP p then 0 else 1
set_option maxRecDepth 100000 in
theorem pcheck_c (p : Pc) (w : World) (hz : p.s.size ≤ 9223372036854775807) : Calls Try.prog 15 #[.agg (pcV p)] w fun e w' => e = .returned (.int .i64 (pcE p)) ∧ Below w.heap.size w w' := by
  have HCK := Lib.hid (show ckP p = (decide (1 ≤ p.s.size) && decide (p.s.size ≤ 200)) from rfl)
  obtain ⟨r, hr⟩ : ∃ r, r = pcE p := ⟨_, rfl⟩
  rw [← hr]
  have h1 : Blk (w.alloc (Obj.cells (pcV p) 33)) w.heap.size 33 (pcV p) := Blk.new w _ _
  have HB := Lib.hid (show Below w.heap.size w (w.alloc (Obj.cells (pcV p) 33)) from (Below.refl _ _).alloc (Nat.le_refl _) _)
  have c0 : (w.alloc (Obj.cells (pcV p) 33)).cell? ⟨w.heap.size, 0, none⟩ = some (.string p.s) := (h1.cell 0).trans rfl
  clear h1
  rcases (show p.s.size = 0 ∨ (1 ≤ p.s.size ∧ p.s.size ≤ 200) ∨ 200 < p.s.size by omega) with hc | ⟨hc1, hc2⟩ | hc
  · have HBB := Lib.hid (show r = 1 by rw [hr]; show (if ckP p then (0 : Int) else 1) = _; rw [HCK.out, hc]; rfl)
    have HH := Lib.hid hc
    have t0 : ((p.s.size : Int) == 0) = true := by rw [hc]; rfl
    have t1 : decide ((1 : Int) ≤ (p.s.size : Int)) = false := by rw [hc]; rfl
    clear hc hz hr
    go_enter Try.func15, Try.ntmps15
    go_upto_region 1 with (refine Go.Great.wpList_boxTo rfl 33 (.tmp 0) rfl (some 1) rfl w.heap.size rfl (pcV p) rfl ?_)
    generalize w.alloc (Obj.cells (pcV p) 33) = Z at *
    go_wp2_with fail
    go_ret
    exact ⟨by rw [HBB.out]; rfl, HB.out⟩
  · have HBB := Lib.hid (show r = 0 by rw [hr]; show (if ckP p then (0 : Int) else 1) = _; rw [HCK.out, decide_eq_true hc1, decide_eq_true hc2]; rfl)
    have t0 : ((p.s.size : Int) == 0) = false := by rw [beq_eq_false_iff_ne]; omega
    have t1 : decide ((1 : Int) ≤ (p.s.size : Int)) = true := decide_eq_true (by omega)
    have t2 : decide ((200 : Int) < (p.s.size : Int)) = false := decide_eq_false (by omega)
    have t3 : decide ((p.s.size : Int) ≤ 200) = true := decide_eq_true (by omega)
    clear hc1 hc2 hz hr
    go_enter Try.func15, Try.ntmps15
    go_upto_region 1 with (refine Go.Great.wpList_boxTo rfl 33 (.tmp 0) rfl (some 1) rfl w.heap.size rfl (pcV p) rfl ?_)
    generalize w.alloc (Obj.cells (pcV p) 33) = Z at *
    go_wp2_with fail
    go_ret
    exact ⟨by rw [HBB.out]; rfl, HB.out⟩
  · have HBB := Lib.hid (show r = 1 by rw [hr]; show (if ckP p then (0 : Int) else 1) = _; rw [HCK.out, decide_eq_false (show ¬ p.s.size ≤ 200 by omega), Bool.and_false]; try rfl)
    have t0 : ((p.s.size : Int) == 0) = false := by rw [beq_eq_false_iff_ne]; omega
    have t1 : decide ((1 : Int) ≤ (p.s.size : Int)) = true := decide_eq_true (by omega)
    have t2 : decide ((200 : Int) < (p.s.size : Int)) = true := decide_eq_true (by omega)
    have t3 : decide ((p.s.size : Int) ≤ 200) = false := decide_eq_false (by omega)
    clear hc hz hr
    go_enter Try.func15, Try.ntmps15
    go_upto_region 1 with (refine Go.Great.wpList_boxTo rfl 33 (.tmp 0) rfl (some 1) rfl w.heap.size rfl (pcV p) rfl ?_)
    generalize w.alloc (Obj.cells (pcV p) 33) = Z at *
    go_wp2_with fail
    go_ret
    exact ⟨by rw [HBB.out]; rfl, HB.out⟩
set_option maxRecDepth 100000 in
theorem rpcheck_c (p : Pc) (w : World) (hz : p.s.size ≤ 9223372036854775807) : Calls Try.prog 13 #[.agg (pcV p)] w fun e w' => e = .returned (.bool (ckP p)) ∧ Below w.heap.size w w' := by
  have HCK := Lib.hid (show ckP p = (decide (1 ≤ p.s.size) && decide (p.s.size ≤ 200)) from rfl)
  obtain ⟨r, hr⟩ : ∃ r, r = ckP p := ⟨_, rfl⟩
  rw [← hr]
  have h1 : Blk (w.alloc (Obj.cells (pcV p) 33)) w.heap.size 33 (pcV p) := Blk.new w _ _
  have HB := Lib.hid (show Below w.heap.size w (w.alloc (Obj.cells (pcV p) 33)) from (Below.refl _ _).alloc (Nat.le_refl _) _)
  have c0 : (w.alloc (Obj.cells (pcV p) 33)).cell? ⟨w.heap.size, 0, none⟩ = some (.string p.s) := (h1.cell 0).trans rfl
  clear h1
  rcases (show p.s.size = 0 ∨ (1 ≤ p.s.size ∧ p.s.size ≤ 200) ∨ 200 < p.s.size by omega) with hc | ⟨hc1, hc2⟩ | hc
  · have HBB := Lib.hid (show r = false by rw [hr]; show (ckP p) = _; rw [HCK.out, hc]; rfl)
    have HH := Lib.hid hc
    have t0 : ((p.s.size : Int) == 0) = true := by rw [hc]; rfl
    have t1 : decide ((1 : Int) ≤ (p.s.size : Int)) = false := by rw [hc]; rfl
    clear hc hz hr
    go_enter Try.func13, Try.ntmps13
    go_upto_region 1 with (refine Go.Great.wpList_boxTo rfl 33 (.tmp 0) rfl (some 1) rfl w.heap.size rfl (pcV p) rfl ?_)
    generalize w.alloc (Obj.cells (pcV p) 33) = Z at *
    go_wp2_with fail
    go_ret
    exact ⟨by rw [HBB.out]; rfl, HB.out⟩
  · have HBB := Lib.hid (show r = true by rw [hr]; show (ckP p) = _; rw [HCK.out, decide_eq_true hc1, decide_eq_true hc2]; rfl)
    have t0 : ((p.s.size : Int) == 0) = false := by rw [beq_eq_false_iff_ne]; omega
    have t1 : decide ((1 : Int) ≤ (p.s.size : Int)) = true := decide_eq_true (by omega)
    have t2 : decide ((200 : Int) < (p.s.size : Int)) = false := decide_eq_false (by omega)
    have t3 : decide ((p.s.size : Int) ≤ 200) = true := decide_eq_true (by omega)
    clear hc1 hc2 hz hr
    go_enter Try.func13, Try.ntmps13
    go_upto_region 1 with (refine Go.Great.wpList_boxTo rfl 33 (.tmp 0) rfl (some 1) rfl w.heap.size rfl (pcV p) rfl ?_)
    generalize w.alloc (Obj.cells (pcV p) 33) = Z at *
    go_wp2_with fail
    go_ret
    exact ⟨by rw [HBB.out]; rfl, HB.out⟩
  · have HBB := Lib.hid (show r = false by rw [hr]; show (ckP p) = _; rw [HCK.out, decide_eq_false (show ¬ p.s.size ≤ 200 by omega), Bool.and_false]; try rfl)
    have t0 : ((p.s.size : Int) == 0) = false := by rw [beq_eq_false_iff_ne]; omega
    have t1 : decide ((1 : Int) ≤ (p.s.size : Int)) = true := decide_eq_true (by omega)
    have t2 : decide ((200 : Int) < (p.s.size : Int)) = true := decide_eq_true (by omega)
    have t3 : decide ((p.s.size : Int) ≤ 200) = false := decide_eq_false (by omega)
    clear hc hz hr
    go_enter Try.func13, Try.ntmps13
    go_upto_region 1 with (refine Go.Great.wpList_boxTo rfl 33 (.tmp 0) rfl (some 1) rfl w.heap.size rfl (pcV p) rfl ?_)
    generalize w.alloc (Obj.cells (pcV p) 33) = Z at *
    go_wp2_with fail
    go_ret
    exact ⟨by rw [HBB.out]; rfl, HB.out⟩
theorem ser_ne (p q : Pc) : (p.s.toList != q.s.toList) = true ↔ p.s ≠ q.s := by
  rw [bne_iff_ne]
  exact ⟨fun h e => h (by rw [e]), fun h e => h (toList_inj e)⟩
set_option maxRecDepth 100000 in
set_option maxHeartbeats 2000000 in
theorem rroom_c (B : Nat) (A : Option Addr) (c : Nat) (l : List Pc) (w : World) (hr : RdP w B A l) (h1 : l.length ≤ 1000000) (hs : ∀ p ∈ l, p.s.size ≤ 1000000) :
    Calls Try.prog 12 #[.slice A l.length c] w fun e w' => e = .returned (.int .i64 (roomL l : Nat)) ∧ ∃ n, w' = w.drewN n := by
  have HR := Lib.hid hr
  have HSZ := Lib.hid (show ∀ k, (l.getD k pc0).s.size ≤ 1000000 from fun k => by
    rcases Nat.lt_or_ge k l.length with h | h
    · exact hs _ (by simp [List.getD_eq_getElem?_getD, h])
    · rw [List.getD_eq_getElem?_getD, List.getElem?_eq_none h]; decide)
  have hbd : ∀ k, k ≤ l.length → roomTo l k ≤ 4 + k * 1000100 := by
    intro k
    induction k with
    | zero => intro _; rw [roomTo_zero]; omega
    | succ k ih =>
      intro hk
      have h2 := ih (by omega)
      have h3 := HSZ.out k
      rw [roomTo_succ l k hk]
      split <;> omega
  have HBD := Lib.hid hbd
  clear hr hs hbd
  go_enter Try.func12, Try.ntmps12
  go_wp2
  go_loopw [3, 4] (fun n i wr => ∃ k q : Nat, k ≤ l.length ∧ i = .int .i64 k ∧ n = .int .i64 (roomTo l k : Nat) ∧ wr = w.drewN q) (fun _ i _ => l.length - (intOf i).toNat)
  case atStart => exact ⟨0, 0, Nat.zero_le _, rfl, by rw [roomTo_zero]; rfl, rfl⟩
  case round =>
    rename World => wr
    obtain ⟨k, q, hk, rfl, rfl, hw⟩ := hrel
    have HW := Lib.hid hw
    clear hw
    by_cases hlt : k < l.length
    · have p1 : (k : Int) < (l.length : Int) := by omega
      have hrr := HR.out
      obtain ⟨ad, rfl, _, hat⟩ := hrr.open_ (by omega)
      have e0 : wr.cell? (ad.add (k * 5)) = some (.string (l.getD k pc0).s) := by rw [HW.out]; exact (hat.piece k hlt).ser
      have HSU := Lib.hid (roomTo_succ l k hlt)
      have hz := HSZ.out k
      have hb0 := HBD.out k hk
      have hb1 := HBD.out (k + 1) hlt
      rcases Nat.eq_zero_or_pos k with h0 | h0
      · have HRT := Lib.hid (show roomTo l (k + 1) = roomTo l k + (6 + (l.getD k pc0).s.size) + 32 by rw [HSU.out, if_pos (.inl h0)])
        have t0 : ((k : Int) == 0) = true := by rw [h0]; rfl
        clear HSU hat h0
        generalize l.getD k pc0 = p at *
        generalize hr0 : roomTo l k = r0 at *
        clear hr0
        have f1 : IntKind.i64.wrap ((r0 : Int) + 6) = (r0 : Int) + 6 := IntWalk.i64_in _ (by omega)
        have f2 : IntKind.i64.wrap ((r0 : Int) + 6 + (p.s.size : Int)) = (r0 : Int) + 6 + (p.s.size : Int) := IntWalk.i64_in _ (by omega)
        have HE := Lib.hid (show (r0 : Int) + 6 + (p.s.size : Int) + 32 = ((roomTo l (k + 1) : Nat) : Int) by rw [HRT.out]; omega)
        clear HRT hb1
        go_upto_region 5 with fail
        go_quiet (fail)
        have HW2 := Lib.hid (show wr.drewN nq = w.drewN (q + nq) by rw [HW.out]; exact World.drewN_drewN ..)
        have e1 : (wr.drewN nq).cell? (ad.add (k * 5)) = some (.string p.s) := e0
        clear e0 HW
        generalize wr.drewN nq = wp at *
        go_wp2_with fail
        go_roundw
        case rel => exact ⟨k + 1, q + nq, by omega, by go_num, by rw [← HE.out], HW2.out⟩
        case measure => simp only [intOf]; omega
      · obtain ⟨j, hj⟩ : ∃ j, k = j + 1 := ⟨k - 1, by omega⟩
        have e2 : wr.cell? (ad.add (j * 5)) = some (.string (l.getD j pc0).s) := by rw [HW.out]; exact (hat.piece j (by omega)).ser
        have fj : IntKind.i64.wrap ((k : Int) - 1) = (j : Int) := by rw [IntWalk.i64_in _ (by omega)]; omega
        have hjl : (j : Int) < (l.length : Int) := by omega
        have hj0 : (0 : Int) ≤ (j : Int) := by omega
        have t0 : ((k : Int) == 0) = false := by rw [beq_eq_false_iff_ne]; omega
        have HKJ := Lib.hid (show k - 1 = j by omega)
        have HK0 := Lib.hid (show ¬ k = 0 by omega)
        clear hj h0 hat
        by_cases hse : ((l.getD k pc0).s.toList == (l.getD j pc0).s.toList) = true
        · have HRT := Lib.hid (show roomTo l (k + 1) = roomTo l k + 32 by
            rw [HSU.out, HKJ.out, if_neg (by rintro (h | h); · exact HK0.out h
                                             · exact h (toList_inj (eq_of_beq hse)))])
          clear HSU
          generalize l.getD k pc0 = p at *
          generalize l.getD j pc0 = p' at *
          generalize hr0 : roomTo l k = r0 at *
          clear hr0
          have HE := Lib.hid (show (r0 : Int) + 32 = ((roomTo l (k + 1) : Nat) : Int) by rw [HRT.out]; omega)
          clear HRT hb1
          go_upto_region 5 with fail
          go_quiet (fail)
          have HW2 := Lib.hid (show wr.drewN nq = w.drewN (q + nq) by rw [HW.out]; exact World.drewN_drewN ..)
          have e1 : (wr.drewN nq).cell? (ad.add (k * 5)) = some (.string p.s) := e0
          clear e0 e2 HW
          generalize wr.drewN nq = wp at *
          go_wp2_with fail
          go_roundw
          case rel => exact ⟨k + 1, q + nq, by omega, by go_num, by rw [← HE.out], HW2.out⟩
          case measure => simp only [intOf]; omega
        · have hsf : ((l.getD k pc0).s.toList == (l.getD j pc0).s.toList) = false := by simpa using hse
          have HRT := Lib.hid (show roomTo l (k + 1) = roomTo l k + (6 + (l.getD k pc0).s.size) + 32 by
            rw [HSU.out, HKJ.out, if_pos (.inr (fun h => hse (by rw [h]; simp)))])
          clear HSU hse
          generalize l.getD k pc0 = p at *
          generalize l.getD j pc0 = p' at *
          generalize hr0 : roomTo l k = r0 at *
          clear hr0
          have f1 : IntKind.i64.wrap ((r0 : Int) + 6) = (r0 : Int) + 6 := IntWalk.i64_in _ (by omega)
          have f2 : IntKind.i64.wrap ((r0 : Int) + 6 + (p.s.size : Int)) = (r0 : Int) + 6 + (p.s.size : Int) := IntWalk.i64_in _ (by omega)
          have HE := Lib.hid (show (r0 : Int) + 6 + (p.s.size : Int) + 32 = ((roomTo l (k + 1) : Nat) : Int) by rw [HRT.out]; omega)
          clear HRT hb1
          go_upto_region 5 with fail
          go_quiet (fail)
          have HW2 := Lib.hid (show wr.drewN nq = w.drewN (q + nq) by rw [HW.out]; exact World.drewN_drewN ..)
          have e1 : (wr.drewN nq).cell? (ad.add (k * 5)) = some (.string p.s) := e0
          clear e0 e2 HW
          generalize wr.drewN nq = wp at *
          go_wp2_with fail
          go_roundw
          case rel => exact ⟨k + 1, q + nq, by omega, by go_num, by rw [← HE.out], HW2.out⟩
          case measure => simp only [intOf]; omega
    · obtain rfl : k = l.length := by omega
      go_wp2_with fail
      go_ret
      exact ⟨by rw [roomTo_all]; rfl, q, HW.out.symm ▸ rfl⟩
end Go.Proofs.Ytihbjnjpomljjaa
/- Contracts: how many pieces are of one series. -/
namespace Go.Proofs.Ytihbjnjpomljjaa
set_option maxRecDepth 100000
open Go.RowKit
set_option linter.unusedVariables false
set_option linter.unusedSimpArgs false
theorem run1_at (s : ByteArray) : ∀ (l : List Pc) (k : Nat), k ≤ run1 s l → k < l.length → ((l.getD k pc0).s = s → k + 1 ≤ run1 s l) ∧ ((l.getD k pc0).s ≠ s → run1 s l = k)
  | [], k, _, h => by simp at h
  | p :: l, 0, hk, _ => by
    unfold run1
    constructor
    · intro h
      have h' : p.s = s := h
      rw [if_pos h']; omega
    · intro h
      have h' : ¬ p.s = s := h
      rw [if_neg h']
  | p :: l, k + 1, hk, h => by
    unfold run1 at hk ⊢
    by_cases he : p.s = s
    · rw [if_pos he] at hk ⊢
      have := run1_at s l k (by omega) (by simpa using h)
      simp only [List.getD_cons_succ]
      exact ⟨fun h1 => by have := this.1 h1; omega, fun h1 => by have := this.2 h1; omega⟩
    · rw [if_neg he] at hk; omega
/-- the closure: is it of another series? -/
theorem closure_c (p : Pc) (gl n c : Nat) (a : Addr) (s0 : ByteArray) (w : World) (hv : w.cell? ⟨gl, 0, none⟩ = some (.slice (some a) n c)) (hn : 0 < n) (ha : w.cell? a = some (.string s0)) (hb : gl < w.heap.size) (hab : a.block < w.heap.size) :
    Calls Try.prog 39 #[.agg (pcV p), .pointer (some ⟨gl, 0, none⟩)] w fun e w' => e = .returned (.bool (!(p.s.toList == s0.toList))) ∧ Below w.heap.size w w' := by
  have h1 : Blk (w.alloc (Obj.cells (pcV p) 33)) w.heap.size 33 (pcV p) := Blk.new w _ _
  have hB : Below w.heap.size w (w.alloc (Obj.cells (pcV p) 33)) := (Below.refl _ _).alloc (Nat.le_refl _) _
  have HB := Lib.hid hB
  have c0 : (w.alloc (Obj.cells (pcV p) 33)).cell? ⟨w.heap.size, 0, none⟩ = some (.string p.s) := (h1.cell 0).trans rfl
  have c1 : (w.alloc (Obj.cells (pcV p) 33)).cell? ⟨gl, 0, none⟩ = some (.slice (some a) n c) := (hB.cell (p := ⟨gl, 0, none⟩) hb).trans hv
  have c2 : (w.alloc (Obj.cells (pcV p) 33)).cell? a = some (.string s0) := (hB.cell hab).trans ha
  have p0 : (0 : Int) < (n : Int) := by omega
  obtain ⟨r, hr⟩ : ∃ r, r = !(p.s.toList == s0.toList) := ⟨_, rfl⟩
  have HR := Lib.hid hr
  rw [← hr]
  clear h1 hB hv ha hb hab hr
  go_enter Try.func39, Try.ntmps39
  go_upto_region 1 with (refine Go.Great.wpList_boxTo rfl 33 (.tmp 0) rfl (some 2) rfl w.heap.size rfl (pcV p) rfl ?_)
  generalize w.alloc (Obj.cells (pcV p) 33) = Z at *
  go_quiet (fail)
  have HB2 := Lib.hid (belowDrewN nq HB.out)
  generalize Z.drewN nq = Z2 at *
  go_wp2_with fail
  go_ret
  exact ⟨by rw [HR.out]; rfl, HB2.out⟩
/-- the index of the first one that is of another series, or -1 -/
def idxR (m n : Nat) : Int := if m < n then (m : Int) else -1
set_option maxRecDepth 100000 in
set_option maxHeartbeats 1000000 in
theorem index_c (gl c : Nat) (a : Addr) (l : List Pc) (s0 : ByteArray) (w : World) (hv : w.cell? ⟨gl, 0, none⟩ = some (.slice (some a) l.length c)) (hn : 0 < l.length) (hs0 : s0 = (l.getD 0 pc0).s) (hat : AtA w a (pcs l)) (hb : gl < w.heap.size) (hab : a.block < w.heap.size) (h1 : l.length ≤ 1000000) :
    Calls Try.prog 38 #[.slice (some a) l.length c, .func (.func 39) #[] #[.pointer (some ⟨gl, 0, none⟩)]] w fun e w' => e = .returned (.int .i64 (idxR (run1 s0 l) l.length)) ∧ Below w.heap.size w w' := by
  have HAT := Lib.hid hat
  have HRA := Lib.hid (run1_at s0 l)
  have HRL := Lib.hid (run1_le s0 l)
  have HCL := Lib.hid (fun W (h : Below w.heap.size w W) p => closure_c p gl l.length c a s0 W ((h.cell (p := ⟨gl, 0, none⟩) hb).trans hv) hn ((h.cell hab).trans (by rw [hs0]; have := (hat.piece 0 hn).ser; simpa [Addr.add] using this)) (Nat.lt_of_lt_of_le hb h.size) (Nat.lt_of_lt_of_le hab h.size))
  have HAB := Lib.hid hab
  obtain ⟨r, hr⟩ : ∃ r, r = idxR (run1 s0 l) l.length := ⟨_, rfl⟩
  have HRR := Lib.hid (show r = if run1 s0 l < l.length then ((run1 s0 l : Nat) : Int) else -1 from hr)
  rw [← hr]
  clear hv hat hb hab hs0 hr
  generalize run1 s0 l = m at *
  go_enter Try.func38, Try.ntmps38
  go_wp2
  go_loopw [8] (fun i wr => ∃ k : Nat, k ≤ l.length ∧ k ≤ m ∧ i = .int .i64 k ∧ Below w.heap.size w wr) (fun i _ => l.length - (intOf i).toNat)
  case atStart => exact ⟨0, Nat.zero_le _, Nat.zero_le _, rfl, Below.refl _ _⟩
  case round =>
    rename World => wr
    obtain ⟨k, hk, hkm, rfl, hb⟩ := hrel
    have HB := Lib.hid hb
    clear hb
    by_cases hlt : k < l.length
    · have p1 : (k : Int) < (l.length : Int) := by omega
      have HPC := Lib.hid ((HAT.out.below HB.out HAB.out).piece k hlt)
      have HRK := Lib.hid (HRA.out k hkm hlt)
      have HPI := Lib.hid (pcLn (l.getD k pc0))
      have HCK := Lib.hid (HCL.out wr HB.out (l.getD k pc0))
      generalize l.getD k pc0 = p at *
      by_cases hse : p.s = s0
      · have HK1 := Lib.hid (HRK.out.1 hse)
        have HS := Lib.hid (show (!(p.s.toList == s0.toList)) = false by rw [hse]; simp)
        rw [HS.out] at HCK
        clear hse
        go_wp2_with (first
          | (refine wpList_loadA rfl 33 (.tmp 14) rfl (a.add (k * 5)) rfl (pcL p) _ HPC.out Try.underlying33 rfl HPI.out ?_)
          | (go_at_call 39; (refine HCK.out.mono ?_); rintro e W1 ⟨rfl, hb1⟩; have HB1 := Lib.hid (HB.out.trans (hb1.mono HB.out.size)); clear hb1))
        go_roundw
        case rel => exact ⟨k + 1, by omega, by have := HK1.out; omega, by go_num, HB1.out⟩
        case measure => simp only [intOf]; omega
      · have HK1 := Lib.hid (HRK.out.2 hse)
        have HS := Lib.hid (show (!(p.s.toList == s0.toList)) = true by
          rw [Bool.not_eq_true', beq_eq_false_iff_ne]
          exact fun h => hse (toList_inj h))
        rw [HS.out] at HCK
        have HRV := Lib.hid (show r = (k : Int) by rw [HRR.out, HK1.out, if_pos hlt])
        clear hse
        go_wp2_with (first
          | (refine wpList_loadA rfl 33 (.tmp 14) rfl (a.add (k * 5)) rfl (pcL p) _ HPC.out Try.underlying33 rfl HPI.out ?_)
          | (go_at_call 39; (refine HCK.out.mono ?_); rintro e W1 ⟨rfl, hb1⟩; have HB1 := Lib.hid (HB.out.trans (hb1.mono HB.out.size)); clear hb1))
        go_ret
        exact ⟨by rw [HRV.out]; rfl, HB1.out⟩
    · obtain rfl : k = l.length := by omega
      have HRV := Lib.hid (show r = (-1 : Int) by rw [HRR.out, if_neg (by omega)])
      go_wp2_with fail
      go_ret
      exact ⟨by rw [HRV.out]; rfl, HB.out⟩
end Go.Proofs.Ytihbjnjpomljjaa
/- Contract: the groups. -/
namespace Go.Proofs.Ytihbjnjpomljjaa
set_option maxRecDepth 100000
open Go.RowKit
set_option linter.unusedVariables false
set_option linter.unusedSimpArgs false
/-- the groups' slices -/
def gv (ad : Addr) (c : Nat) : Nat → List Nat → List Value
  | _, [] => []
  | off, m :: ms => .slice (some (ad.add (off * 5))) m (c - off) :: gv ad c (off + m) ms
theorem gv_len (ad : Addr) (c : Nat) : ∀ (off : Nat) (ms : List Nat), (gv ad c off ms).length = ms.length
  | _, [] => rfl
  | off, m :: ms => by rw [gv, List.length_cons, gv_len ad c (off + m) ms, List.length_cons]
theorem gv_snoc (ad : Addr) (c m : Nat) : ∀ (off : Nat) (ms : List Nat), gv ad c off (ms ++ [m]) = gv ad c off ms ++ [.slice (some (ad.add ((off + ms.sum) * 5))) m (c - (off + ms.sum))]
  | off, [] => by simp [gv]
  | off, n :: ms => by
    rw [List.cons_append, gv, gv, gv_snoc ad c m (off + n) ms, List.sum_cons, List.cons_append, Nat.add_assoc]
theorem gv_at (ad : Addr) (c : Nat) : ∀ (off : Nat) (ms : List Nat) (k : Nat), k < ms.length → (gv ad c off ms)[k]? = some (.slice (some (ad.add ((off + (ms.take k).sum) * 5))) (ms.getD k 0) (c - (off + (ms.take k).sum)))
  | off, [], k, h => by simp at h
  | off, m :: ms, 0, h => by simp [gv]
  | off, m :: ms, k + 1, h => by
    rw [gv, List.getElem?_cons_succ, gv_at ad c (off + m) ms k (by simpa using h), List.take_succ_cons, List.sum_cons, List.getD_cons_succ, Nat.add_assoc]
theorem gv_one (ad : Addr) (c off : Nat) (ms : List Nat) : ∀ u ∈ gv ad c off ms, u.oneCell' = true := by
  induction ms generalizing off with
  | nil => intro u h; cases h
  | cons m ms ih =>
    intro u h
    rcases List.mem_cons.1 h with rfl | h
    · rfl
    · exact ih _ u h
theorem grps_at (l : List Pc) : ∀ (ns : List Nat) (k : Nat) (off : Nat), k < ns.length → (cutsL ns (l.drop off)).getD k [] = (l.drop (off + (ns.take k).sum)).take (ns.getD k 0)
  | [], k, off, h => by simp at h
  | n :: ns, 0, off, h => by simp [cutsL]
  | n :: ns, k + 1, off, h => by
    rw [cutsL, List.getD_cons_succ, List.drop_drop, grps_at l ns k (off + n) (by simpa using h), List.take_succ_cons, List.sum_cons, List.getD_cons_succ, Nat.add_assoc]
theorem cutsL_len : ∀ (ns : List Nat) (l : List Pc), (cutsL ns l).length = ns.length
  | [], _ => rfl
  | n :: ns, l => by rw [cutsL, List.length_cons, cutsL_len ns, List.length_cons]
theorem grps_len (l : List Pc) : (grps l).length = (gls l).length := cutsL_len _ _
theorem gls_sum : ∀ l : List Pc, (gls l).sum = l.length := grps_ind (by rw [gls_nil]; rfl) fun p l ih => by
  rw [gls_cons, List.sum_cons, ih, List.length_drop, List.length_cons]
  have := run1_le p.s l
  omega
theorem gls_le (l : List Pc) (h : 0 < l.length) : gls l = run1 (l.getD 0 pc0).s l :: gls (l.drop (run1 (l.getD 0 pc0).s l)) ∧ 0 < run1 (l.getD 0 pc0).s l ∧ run1 (l.getD 0 pc0).s l ≤ l.length := by
  cases l with
  | nil => simp at h
  | cons p l =>
    have e : run1 p.s (p :: l) = run1 p.s l + 1 := by conv => lhs; unfold run1; rw [if_pos rfl]
    have := run1_le p.s (p :: l)
    rw [List.getD_cons_zero, e]
    rw [e] at this
    exact ⟨by rw [gls_cons, List.drop_succ_cons], by omega, this⟩
def OwnG (w : World) (base : Nat) (v : Value) (xs : List Value) : Prop := w.ownsRow base 22 1 v xs.length xs
theorem OwnG.next {w w' : World} {base : Nat} {v : Value} {xs : List Value} (h : OwnG w base v xs) (hb : Below w.heap.size w w') : OwnG w' base v xs := own_keep (S := fun _ => False) h (Only.of_below hb) (fun _ _ h => h)
theorem OwnG.alloc {w : World} {base : Nat} {v : Value} {xs : List Value} (h : OwnG w base v xs) (o : Obj) : OwnG (w.alloc o) base v xs := World.ownsRow.alloc h o
theorem OwnG.off {w w' : World} {base : Nat} {v : Value} {xs : List Value} {S : Nat → Prop} (h : OwnG w base v xs) (ho : Only S w w') (hS : ∀ k, S k → k < base) : OwnG w' base v xs :=
  own_keep h ho (fun g hg hs => by
    rcases h.2 with ⟨h1, h2⟩ | ⟨g', cap, cur, h1, hb, _⟩
    · rw [h1] at hg; cases hg
    · rw [h1] at hg
      have e : g' = g := by simpa [Value.ownBlock] using hg
      have := hS g hs
      omega)
theorem OwnG.snoc {w w' : World} {base : Nat} {v v' x : Value} {xs : List Value} (h : Apped w base 22 1 v w' v' (xs.length + 1) (xs ++ [x])) : OwnG w' base v' (xs ++ [x]) := by
  have := h.own
  unfold OwnG
  rw [List.length_append]
  exact this
theorem grpInfo : (Try.prog.info? 22).map (fun i => (i.zero, i.size, i.bytes)) = some (some (.slice none 0 0), 1, 24) := by kernel_rfl
set_option maxRecDepth 100000 in
set_option maxHeartbeats 2000000 in
theorem groups_c (ad : Addr) (c : Nat) (l : List Pc) (w : World) (hat : AtA w ad (pcs l)) (hab : ad.block < w.heap.size) (hc : l.length ≤ c) (h0 : 0 < l.length) (h1 : l.length ≤ 100000) :
    Calls Try.prog 31 #[.slice (some ad) l.length c] w fun e w' => ∃ v, e = .returned v ∧ OwnG w' w.heap.size v (gv ad c 0 (gls l)) ∧ Below w.heap.size w w' := by
  obtain ⟨i0, hib, hz0, hz1, hz2⟩ := info_parts grpInfo
  have HAT := Lib.hid hat
  have HAB := Lib.hid hab
  have HLEN := Lib.hid (show (gls l).length ≤ l.length from by
    have hgn : ∀ l : List Pc, (gls l).length ≤ l.length := grps_ind (by rw [gls_nil]; exact Nat.le_refl _) fun p l ih => by
      rw [gls_cons, List.length_cons, List.length_cons]
      rw [List.length_drop] at ih
      omega
    exact hgn l)
  clear hat hab
  go_enter Try.func31, Try.ntmps31
  go_wp2_with fail
  go_loopw [3] (fun o wr => ∃ (ms : List Nat) (A' : Option Addr), ms.sum ≤ l.length ∧ gls l = ms ++ gls (l.drop ms.sum) ∧ OwnG wr (w.heap.size + 1) o (gv ad c 0 ms) ∧ Below w.heap.size w wr ∧ Blk wr w.heap.size 22 #[.slice A' (l.length - ms.sum) (c - ms.sum)] ∧ (ms.sum < l.length → A' = some (ad.add (ms.sum * 5))) ∧ w.heap.size + 1 ≤ wr.heap.size) (fun _ wr => match wr.cell? ⟨w.heap.size, 0, none⟩ with | some (.slice _ n _) => n | _ => 0)
  case atStart => exact ⟨[], some ad, Nat.zero_le _, by simp, ⟨rfl, .inl ⟨rfl, rfl⟩⟩, (Below.refl _ _).alloc (Nat.le_refl _) _, Blk.new _ _ _, fun _ => by simp [Addr.add], by simp⟩
  case round =>
    rename World => wr
    obtain ⟨ms, A', hms, hgl, ho, hb, hB, hA, hsz⟩ := hrel
    have HGL := Lib.hid hgl
    have HO := Lib.hid ho
    have HB := Lib.hid hb
    have HBK := Lib.hid hB
    have HSZ := Lib.hid hsz
    have c0 : wr.cell? ⟨w.heap.size, 0, none⟩ = some (.slice A' (l.length - ms.sum) (c - ms.sum)) := (hB.cell 0).trans rfl
    have fz : wr.frozen? ⟨w.heap.size, 0, none⟩ = false := hB.free 0
    clear hgl ho hb hB hsz
    by_cases hlt : ms.sum < l.length
    · have hAA := hA hlt
      subst hAA
      have HATW := Lib.hid (show AtA wr (ad.add (ms.sum * 5)) (pcs (l.drop ms.sum)) by
        rw [pcs_drop]
        have h1 := (HAT.out.below HB.out HAB.out).drop (ms.sum * 5) ((pcs l).length - ms.sum * 5)
        rwa [List.take_of_length_le (by rw [List.length_drop]; exact Nat.le_refl _)] at h1)
      have HG := gls_le (l.drop ms.sum) (by rw [List.length_drop]; omega)
      have HLL := Lib.hid (show (l.drop ms.sum).length = l.length - ms.sum from List.length_drop ..)
      have HIC := Lib.hid (index_c w.heap.size (c - ms.sum) (ad.add (ms.sum * 5)) (l.drop ms.sum) ((l.drop ms.sum).getD 0 pc0).s wr (by rw [HLL.out]; exact c0) (by rw [HLL.out]; omega) rfl HATW.out HBK.out.lt (by have := HB.out.size; have := HAB.out; rw [add_block]; omega) (by rw [HLL.out]; omega))
      rw [HLL.out] at HIC HG
      rw [List.drop_drop] at HG
      obtain ⟨m, hm⟩ : ∃ m, m = run1 ((l.drop ms.sum).getD 0 pc0).s (l.drop ms.sum) := ⟨_, rfl⟩
      rw [← hm] at HIC HG
      obtain ⟨hg1, hg2, hg3⟩ := HG
      have HGS := Lib.hid (gv_snoc ad c m 0 ms)
      rw [Nat.zero_add] at HGS
      have HGM := Lib.hid (show gls l = (ms ++ [m]) ++ gls (l.drop (ms.sum + m)) by rw [HGL.out, hg1, List.append_assoc]; rfl)
      have HSUM := Lib.hid (show (ms ++ [m]).sum = ms.sum + m by simp)
      have HGN := Lib.hid (gv_len ad c 0 ms)
      have HMN := Lib.hid (show ms.length ≤ l.length from by have h1 := congrArg List.length HGL.out; rw [List.length_append] at h1; have := HLEN.out; omega)
      have HADD := Lib.hid (show (ad.add (ms.sum * 5)).add (m * 5) = ad.add ((ms.sum + m) * 5) by rw [Addr.add_add, Nat.add_mul])
      clear hm hg1 HATW hA HGL
      obtain ⟨N, hN⟩ : ∃ N, N = l.length - ms.sum := ⟨_, rfl⟩
      obtain ⟨C, hC⟩ : ∃ C, C = c - ms.sum := ⟨_, rfl⟩
      rw [← hN] at HIC hg3 c0
      rw [← hC] at HIC HGS c0
      have HNN := Lib.hid (show l.length - (ms.sum + m) = N - m by omega)
      have HCC := Lib.hid (show c - (ms.sum + m) = C - m by omega)
      have hNC : N ≤ C := by omega
      have hms2 : ms.sum + m ≤ l.length := by omega
      have HBK2 := Lib.hid (show Blk wr w.heap.size 22 #[.slice (some (ad.add (ms.sum * 5))) N C] by rw [hN, hC]; exact HBK.out)
      have hN0 : (0 : Int) < (N : Int) := by omega
      have hNle : N ≤ l.length := by omega
      clear hN hC hms hlt HLL HBK
      generalize ad.add (ms.sum * 5) = a' at *
      have q0 : (0 : Int) ≤ (m : Int) := by omega
      have q1 : (m : Int) ≤ (N : Int) := by omega
      have q2 : (m : Int) ≤ (C : Int) := by omega
      have q3 : decide ((m : Int) < 0) = false := decide_eq_false (by omega)
      have q4 : decide ((-1 : Int) < 0) = true := rfl
      by_cases hmN : m < N
      · have hid : idxR m N = (m : Int) := by unfold idxR; rw [if_pos hmN]
        rw [hid] at HIC
        have hCm : ¬ C = m := by omega
        clear hid
        go_wp2_with (first
          | (go_at_call 38; (refine HIC.out.mono ?_); rintro e W1 ⟨rfl, hb1⟩; have HB1 := Lib.hid (HB.out.trans (hb1.mono HB.out.size)); have HO1 := Lib.hid (show OwnG W1 (w.heap.size + 1) _ (gv ad c 0 ms) from OwnG.next HO.out hb1); have HBK1 := HBK2.out.below hb1 HBK2.out.lt; have d0 : W1.cell? ⟨w.heap.size, 0, none⟩ = some (.slice (some a') N C) := (HBK1.cell 0).trans rfl; have HBK3 := Lib.hid HBK1; have HS1 := Lib.hid (Nat.le_trans HSZ.out hb1.size); clear hb1 HBK1)
          | (at_builtin; go_loud (refine wpList_app _ rfl (.tmp 15) (.tmp 19) _ rfl (w.heap.size + 1) 22 i0 (.slice none 0 0) 1 24 Try.underlying25 hib hz0 hz1 hz2 rfl (by decide) _ _ (gv ad c 0 ms) rfl (HO1.out.alloc _) _ (some ⟨W1.heap.size, 0, none⟩) 1 1 [.slice (some a') m C] rfl rfl (by exact rd_new W1 [.slice (some a') m C] _ (0, 0)) (by intro u hu; rw [List.mem_singleton.1 hu]; rfl) (by rw [HGN.out]; have := HMN.out; omega) (by rw [HGN.out]; have := HMN.out; omega) (by have := HS1.out; simp; omega) ?_; intro v1 w2 hap; have hbw := hap.below (HO1.out.alloc _) (by have := HS1.out; simp; omega); have hbk4 := (HBK3.out.alloc (Obj.cells #[.slice (some a') m C] 22)).below hbw (Nat.lt_succ_self _); have d1 : w2.cell? ⟨w.heap.size, 0, none⟩ = some (.slice (some a') N C) := (hbk4.cell 0).trans rfl; have d2 : w2.frozen? ⟨w.heap.size, 0, none⟩ = false := hbk4.free 0; have HBK4 := Lib.hid hbk4; have HAP := Lib.hid (OwnG.snoc hap); have HB2 := Lib.hid ((HB1.out.alloc HB1.out.size (Obj.cells #[.slice (some a') m C] 22)).trans (hbw.mono (Nat.le_succ _))); have HS2 := Lib.hid (show w.heap.size + 1 ≤ w2.heap.size from Nat.le_trans (Nat.le_trans HS1.out (by simp)) hbw.size); clear hap hbw hbk4 d0)))
        go_roundw
        case rel => exact ⟨ms ++ [m], _, by rw [HSUM.out]; omega, by rw [HSUM.out]; exact HGM.out, by rw [HGS.out]; exact HAP.out.off ((Only.refl (fun k => k = w.heap.size) w2).setCell (p := ⟨w.heap.size, 0, none⟩) (fun _ => rfl) _) (fun k hk => by omega), HB2.out.setCell (by show w.heap.size ≤ w.heap.size; omega) _, by rw [HSUM.out, HNN.out, HCC.out]; exact HBK4.out.set_ 0 _, fun h => by rw [HSUM.out, HADD.out], by simpa using HS2.out⟩
        case measure =>
          have HM1 := (HBK4.out.set_ 0 (.slice (some (a'.add (m * 5))) (N - m) (C - m))).cell 0
          have HM0 := (HBK2.out.cell 0)
          rw [HM0, HM1]
          show (N - m) < N
          omega
      · have hmN2 : m = N := by omega
        subst hmN2
        have hid : idxR m m = -1 := by unfold idxR; rw [if_neg (by omega)]
        rw [hid] at HIC
        clear hid hmN q1
        have HEND := Lib.hid (show ms.sum + m = l.length by have := HNN.out; omega)
        by_cases hCm : C = m
        · have hCm' : m = C := hCm.symm
          subst hCm'
          clear hCm
          go_wp2_with (first
            | (go_at_call 38; (refine HIC.out.mono ?_); rintro e W1 ⟨rfl, hb1⟩; have HB1 := Lib.hid (HB.out.trans (hb1.mono HB.out.size)); have HO1 := Lib.hid (show OwnG W1 (w.heap.size + 1) _ (gv ad c 0 ms) from OwnG.next HO.out hb1); have HBK1 := HBK2.out.below hb1 HBK2.out.lt; have d0 : W1.cell? ⟨w.heap.size, 0, none⟩ = some (.slice (some a') m m) := (HBK1.cell 0).trans rfl; have HBK3 := Lib.hid HBK1; have HS1 := Lib.hid (Nat.le_trans HSZ.out hb1.size); clear hb1 HBK1)
            | (at_builtin; go_loud (refine wpList_app _ rfl (.tmp 15) (.tmp 19) _ rfl (w.heap.size + 1) 22 i0 (.slice none 0 0) 1 24 Try.underlying25 hib hz0 hz1 hz2 rfl (by decide) _ _ (gv ad c 0 ms) rfl (HO1.out.alloc _) _ (some ⟨W1.heap.size, 0, none⟩) 1 1 [.slice (some a') m m] rfl rfl (by exact rd_new W1 [.slice (some a') m m] _ (0, 0)) (by intro u hu; rw [List.mem_singleton.1 hu]; rfl) (by rw [HGN.out]; have := HMN.out; omega) (by rw [HGN.out]; have := HMN.out; omega) (by have := HS1.out; simp; omega) ?_; intro v1 w2 hap; have hbw := hap.below (HO1.out.alloc _) (by have := HS1.out; simp; omega); have hbk4 := (HBK3.out.alloc (Obj.cells #[.slice (some a') m m] 22)).below hbw (Nat.lt_succ_self _); have d1 : w2.cell? ⟨w.heap.size, 0, none⟩ = some (.slice (some a') m m) := (hbk4.cell 0).trans rfl; have d2 : w2.frozen? ⟨w.heap.size, 0, none⟩ = false := hbk4.free 0; have HBK4 := Lib.hid hbk4; have HAP := Lib.hid (OwnG.snoc hap); have HB2 := Lib.hid ((HB1.out.alloc HB1.out.size (Obj.cells #[.slice (some a') m m] 22)).trans (hbw.mono (Nat.le_succ _))); have HS2 := Lib.hid (show w.heap.size + 1 ≤ w2.heap.size from Nat.le_trans (Nat.le_trans HS1.out (by simp)) hbw.size); clear hap hbw hbk4 d0)))
          go_roundw
          case rel => exact ⟨ms ++ [m], _, by rw [HSUM.out]; omega, by rw [HSUM.out]; exact HGM.out, by rw [HGS.out]; exact HAP.out.off ((Only.refl (fun k => k = w.heap.size) w2).setCell (p := ⟨w.heap.size, 0, none⟩) (fun _ => rfl) _) (fun k hk => by omega), HB2.out.setCell (by show w.heap.size ≤ w.heap.size; omega) _, by rw [HSUM.out, HNN.out, HCC.out, Nat.sub_self]; exact HBK4.out.set_ 0 _, fun h => by rw [HSUM.out, HEND.out] at h; omega, by simpa using HS2.out⟩
          case measure =>
            have HM1 := (HBK4.out.set_ 0 (.slice (some a') 0 (0))).cell 0
            have HM0 := (HBK2.out.cell 0)
            rw [HM0, HM1]
            show 0 < m
            omega
        · go_wp2_with (first
            | (go_at_call 38; (refine HIC.out.mono ?_); rintro e W1 ⟨rfl, hb1⟩; have HB1 := Lib.hid (HB.out.trans (hb1.mono HB.out.size)); have HO1 := Lib.hid (show OwnG W1 (w.heap.size + 1) _ (gv ad c 0 ms) from OwnG.next HO.out hb1); have HBK1 := HBK2.out.below hb1 HBK2.out.lt; have d0 : W1.cell? ⟨w.heap.size, 0, none⟩ = some (.slice (some a') m C) := (HBK1.cell 0).trans rfl; have HBK3 := Lib.hid HBK1; have HS1 := Lib.hid (Nat.le_trans HSZ.out hb1.size); clear hb1 HBK1)
            | (at_builtin; go_loud (refine wpList_app _ rfl (.tmp 15) (.tmp 19) _ rfl (w.heap.size + 1) 22 i0 (.slice none 0 0) 1 24 Try.underlying25 hib hz0 hz1 hz2 rfl (by decide) _ _ (gv ad c 0 ms) rfl (HO1.out.alloc _) _ (some ⟨W1.heap.size, 0, none⟩) 1 1 [.slice (some a') m C] rfl rfl (by exact rd_new W1 [.slice (some a') m C] _ (0, 0)) (by intro u hu; rw [List.mem_singleton.1 hu]; rfl) (by rw [HGN.out]; have := HMN.out; omega) (by rw [HGN.out]; have := HMN.out; omega) (by have := HS1.out; simp; omega) ?_; intro v1 w2 hap; have hbw := hap.below (HO1.out.alloc _) (by have := HS1.out; simp; omega); have hbk4 := (HBK3.out.alloc (Obj.cells #[.slice (some a') m C] 22)).below hbw (Nat.lt_succ_self _); have d1 : w2.cell? ⟨w.heap.size, 0, none⟩ = some (.slice (some a') m C) := (hbk4.cell 0).trans rfl; have d2 : w2.frozen? ⟨w.heap.size, 0, none⟩ = false := hbk4.free 0; have HBK4 := Lib.hid hbk4; have HAP := Lib.hid (OwnG.snoc hap); have HB2 := Lib.hid ((HB1.out.alloc HB1.out.size (Obj.cells #[.slice (some a') m C] 22)).trans (hbw.mono (Nat.le_succ _))); have HS2 := Lib.hid (show w.heap.size + 1 ≤ w2.heap.size from Nat.le_trans (Nat.le_trans HS1.out (by simp)) hbw.size); clear hap hbw hbk4 d0)))
          go_roundw
          case rel => exact ⟨ms ++ [m], _, by rw [HSUM.out]; omega, by rw [HSUM.out]; exact HGM.out, by rw [HGS.out]; exact HAP.out.off ((Only.refl (fun k => k = w.heap.size) w2).setCell (p := ⟨w.heap.size, 0, none⟩) (fun _ => rfl) _) (fun k hk => by omega), HB2.out.setCell (by show w.heap.size ≤ w.heap.size; omega) _, by rw [HSUM.out, HNN.out, HCC.out, Nat.sub_self]; exact HBK4.out.set_ 0 _, fun h => by rw [HSUM.out, HEND.out] at h; omega, by simpa using HS2.out⟩
          case measure =>
            have HM1 := (HBK4.out.set_ 0 (.slice (some (a'.add (m * 5))) 0 (C - m))).cell 0
            have HM0 := (HBK2.out.cell 0)
            rw [HM0, HM1]
            show 0 < m
            omega
    · have hend : ms.sum = l.length := by omega
      have HFG := Lib.hid (show gls l = ms by rw [HGL.out, hend, List.drop_length, gls_nil, List.append_nil])
      have hn0 : l.length - ms.sum = 0 := by omega
      rw [hn0] at c0
      clear hn0 hend hlt hA
      go_wp2_with fail
      refine bodyPost_ret (results_tmp rfl _ _ _) rfl ?_
      exact ⟨_, rfl, by rw [HFG.out]; exact own_base_le HO.out (by omega), HB.out⟩
end Go.Proofs.Ytihbjnjpomljjaa
/- Contract: the room. -/
namespace Go.Proofs.Ytihbjnjpomljjaa
set_option maxRecDepth 100000
open Go.RowKit
set_option linter.unusedVariables false
set_option linter.unusedSimpArgs false
theorem groups0_c (A : Option Addr) (c : Nat) (w : World) : Calls Try.prog 31 #[.slice A 0 c] w fun e w' => e = .returned (.slice none 0 0) ∧ Below w.heap.size w w' := by
  have HB := Lib.hid (show Below w.heap.size w (w.alloc (.cells #[.slice A 0 c] 22)) from (Below.refl _ _).alloc (Nat.le_refl _) _)
  go_enter Try.func31, Try.ntmps31
  go_wp2_with fail
  go_loopw [3] (fun o wr => o = .slice none 0 0 ∧ wr = w.alloc (.cells #[.slice A 0 c] 22)) (fun _ wr => 0)
  case atStart => exact ⟨rfl, rfl⟩
  case round =>
    rename World => wr
    obtain ⟨rfl, rfl⟩ := hrel
    go_wp2_with fail
    refine bodyPost_ret (results_tmp rfl _ _ _) rfl ?_
    exact ⟨rfl, HB.out⟩
theorem gls_pos : ∀ l : List Pc, ∀ m ∈ gls l, 0 < m := grps_ind (by rw [gls_nil]; intro m h; cases h) fun p l ih m h => by
  rw [gls_cons] at h
  rcases List.mem_cons.1 h with rfl | h
  · omega
  · exact ih m h
theorem sum_take_succ : ∀ (ms : List Nat) (k : Nat), k < ms.length → (ms.take (k + 1)).sum = (ms.take k).sum + ms.getD k 0
  | [], k, h => by simp at h
  | m :: ms, 0, h => by simp
  | m :: ms, k + 1, h => by
    rw [List.take_succ_cons, List.sum_cons, sum_take_succ ms k (by simpa using h), List.take_succ_cons, List.sum_cons, List.getD_cons_succ, Nat.add_assoc]
theorem sum_take_le : ∀ (ms : List Nat) (k : Nat), (ms.take k).sum ≤ ms.sum
  | [], k => by simp
  | m :: ms, 0 => by simp
  | m :: ms, k + 1 => by
    rw [List.take_succ_cons, List.sum_cons, List.sum_cons]
    have := sum_take_le ms k
    omega
/-- where a group begins -/
def offG (l : List Pc) (k : Nat) : Nat := ((gls l).take k).sum
def lenG (l : List Pc) (k : Nat) : Nat := (gls l).getD k 0
theorem offG_succ (l : List Pc) (k : Nat) (h : k < (gls l).length) : offG l (k + 1) = offG l k + lenG l k := sum_take_succ _ _ h
theorem offG_le (l : List Pc) (k : Nat) : offG l k ≤ l.length := by rw [← gls_sum l]; exact sum_take_le _ _
theorem lenG_pos (l : List Pc) (k : Nat) (h : k < (gls l).length) : 0 < lenG l k := gls_pos l _ (by
  unfold lenG
  rw [List.getD_eq_getElem?_getD, List.getElem?_eq_getElem h]
  exact List.getElem_mem h)
theorem offG_lt (l : List Pc) (k : Nat) (h : k < (gls l).length) : offG l k + lenG l k ≤ l.length := by rw [← offG_succ l k h]; exact offG_le _ _
theorem grpG (l : List Pc) (k : Nat) (h : k < (gls l).length) : (grps l).getD k [] = (l.drop (offG l k)).take (lenG l k) := by
  have := grps_at l (gls l) k 0 h
  rw [List.drop_zero, Nat.zero_add] at this
  exact this
theorem roomG_cons (a : List Pc) (gs : List (List Pc)) : roomG (a :: gs) = roomG [a] + roomG gs := by cases a <;> simp [roomG]
theorem roomG_snoc (gs : List (List Pc)) (g : List Pc) : roomG (gs ++ [g]) = roomG gs + roomG [g] := by
  induction gs with
  | nil => simp [roomG]
  | cons a gs ih => rw [List.cons_append, roomG_cons, ih, roomG_cons a gs, Nat.add_assoc]
theorem take_snoc_ {α : Type} (d : α) (l : List α) (k : Nat) (h : k < l.length) : l.take (k + 1) = l.take k ++ [l.getD k d] := by
  rw [List.take_succ_eq_append_getElem h]
  simp [List.getD_eq_getElem?_getD, h]
theorem room_step (l : List Pc) (k : Nat) (h : k < (gls l).length) : roomG ((grps l).take (k + 1)) = roomG ((grps l).take k) + (6 + (l.getD (offG l k) pc0).s.size) := by
  rw [take_snoc_ [] _ k (by rw [grps_len]; exact h), roomG_snoc, grpG l k h]
  have h1 := lenG_pos l k h
  have h2 := offG_lt l k h
  rw [List.drop_eq_getElem_cons (by omega), show lenG l k = (lenG l k - 1) + 1 by omega, List.take_succ_cons]
  simp [roomG, List.getD_eq_getElem?_getD, show offG l k < l.length by omega]
theorem gv_rd {W : World} {base : Nat} {v : Value} {xs : List Value} (h : OwnG W base v xs) : ∃ A cap, v = .slice A xs.length cap ∧ xs.length ≤ cap ∧ cap ≤ maxLen ∧ Rd W W.heap.size A xs := own_rd h
theorem rdG_cell {W : World} {B : Nat} {a : Addr} {xs : List Value} {u : Value} (h : Rd W B (some a) xs) (k : Nat) (hk : xs[k]? = some u) : W.cell? (a.add k) = some u := by
  obtain ⟨ad, e, _, hc⟩ := h (by intro h0; rw [h0] at hk; simp at hk)
  injection e with e
  subst e
  exact hc k u hk
set_option maxRecDepth 100000 in
set_option maxHeartbeats 2000000 in
theorem room_c (A : Option Addr) (c : Nat) (l : List Pc) (w : World) (hr : RdP w w.heap.size A l) (hc : l.length ≤ c) (h1 : l.length ≤ 100000) (hs : ∀ p ∈ l, p.s.size ≤ 1000000) :
    Calls Try.prog 22 #[.slice A l.length c] w fun e w' => e = .returned (.int .i64 (roomL l : Nat)) ∧ Below w.heap.size w w' := by
  have f1 : IntKind.i64.wrap (32 * (l.length : Int)) = 32 * (l.length : Int) := IntWalk.i64_in _ (by omega)
  have f2 : IntKind.i64.wrap (4 + 32 * (l.length : Int)) = 4 + 32 * (l.length : Int) := IntWalk.i64_in _ (by omega)
  rcases Nat.eq_zero_or_pos l.length with h0 | h0
  · obtain rfl : l = [] := List.eq_nil_of_length_eq_zero h0
    have HE := Lib.hid (show roomL [] = 4 by unfold roomL; rw [grps_nil]; rfl)
    rw [HE.out]
    clear f1 f2
    show Calls _ _ #[.slice A 0 c] _ _
    go_enter Try.func22, Try.ntmps22
    go_wp2_with (go_at_call 31; (refine (groups0_c A c w).mono ?_); rintro e W1 ⟨rfl, hb⟩; have HB := Lib.hid hb; clear hb)
    go_loopw [3, 13] (fun n i wr => n = .int .i64 4 ∧ i = .int .i64 0 ∧ wr = W1) (fun _ i _ => 0)
    case atStart => exact ⟨rfl, rfl, rfl⟩
    case round =>
      rename World => wr
      obtain ⟨rfl, rfl, rfl⟩ := hrel
      go_wp2_with fail
      go_ret
      exact ⟨rfl, HB.out⟩
  · obtain ⟨ad, rfl, hab, hat⟩ := hr.open_ h0
    have HAT := Lib.hid hat
    have HAB := Lib.hid hab
    have HGC := Lib.hid (groups_c ad c l w hat hab hc h0 h1)
    have HSZ := Lib.hid (show ∀ k, (l.getD k pc0).s.size ≤ 1000000 from fun k => by
      rcases Nat.lt_or_ge k l.length with h | h
      · exact hs _ (by simp [List.getD_eq_getElem?_getD, h])
      · rw [List.getD_eq_getElem?_getD, List.getElem?_eq_none h]; decide)
    have hgn : (gls l).length ≤ l.length := by
      have hgn : ∀ l : List Pc, (gls l).length ≤ l.length := grps_ind (by rw [gls_nil]; exact Nat.le_refl _) fun p l ih => by
        rw [gls_cons, List.length_cons, List.length_cons]
        rw [List.length_drop] at ih
        omega
      exact hgn l
    have HGV := Lib.hid (gv_len ad c 0 (gls l))
    have HGA := Lib.hid (fun k (h : k < (gls l).length) => gv_at ad c 0 (gls l) k h)
    have HST := Lib.hid (fun k (h : k < (gls l).length) => room_step l k h)
    have HLP := Lib.hid (fun k (h : k < (gls l).length) => lenG_pos l k h)
    have HOL := Lib.hid (fun k (h : k < (gls l).length) => offG_lt l k h)
    have HFIN := Lib.hid (show roomL l = 4 + 32 * l.length + roomG ((grps l).take (gls l).length) by unfold roomL; rw [← grps_len, List.take_length])
    have hbd : ∀ k, k ≤ (gls l).length → roomG ((grps l).take k) ≤ k * 1000100 := by
      intro k
      induction k with
      | zero => intro _; simp [roomG]
      | succ k ih =>
        intro hk
        have h2 := ih (by omega)
        have h3 := HSZ.out (offG l k)
        rw [room_step l k hk]
        omega
    have HBD := Lib.hid hbd
    clear hr hs hbd hat hab
    obtain ⟨r, hr⟩ : ∃ r, r = roomL l := ⟨_, rfl⟩
    rw [← hr]
    have HRR := Lib.hid hr
    clear hr
    go_enter Try.func22, Try.ntmps22
    go_wp2_with (go_at_call 31; (refine HGC.out.mono ?_); rintro e W1 ⟨v, rfl, ho, hb⟩; obtain ⟨A2, c2, rfl, _, _, r2⟩ := gv_rd ho; have HB := Lib.hid hb; have HR2 := Lib.hid r2; rw [HGV.out]; clear ho hb r2)
    have HATW := Lib.hid (HAT.out.below HB.out HAB.out)
    go_loop [3, 13] (fun n i => ∃ k : Nat, k ≤ (gls l).length ∧ i = .int .i64 k ∧ n = .int .i64 (4 + 32 * (l.length : Int) + (roomG ((grps l).take k) : Nat))) (fun _ i => (gls l).length - (intOf i).toNat)
    case atStart => exact ⟨0, Nat.zero_le _, rfl, by simp [roomG]⟩
    case round =>
      obtain ⟨k, hk, rfl, rfl⟩ := hrel
      by_cases hlt : k < (gls l).length
      · have p1 : (k : Int) < ((gls l).length : Int) := by omega
        have hga := HGA.out k hlt
        rw [Nat.zero_add] at hga
        have hrr := HR2.out
        obtain ⟨a2, rfl, _, _⟩ := hrr (by intro h; rw [h] at hga; simp at hga)
        have e0r := rdG_cell HR2.out k hga
        have hol := HOL.out k hlt
        have hlp := HLP.out k hlt
        have e1 := (HATW.out.piece (offG l k) (by omega)).ser
        have HSK := Lib.hid (HST.out k hlt)
        have hz := HSZ.out (offG l k)
        have hb0 := HBD.out k hk
        have e0 : W1.cell? (a2.add k) = some (.slice (some (ad.add (offG l k * 5))) (lenG l k) (c - offG l k)) := e0r
        clear hga e0r
        generalize l.getD (offG l k) pc0 = p at *
        generalize ad.add (offG l k * 5) = a' at *
        generalize lenG l k = m at *
        generalize c - offG l k = cc at *
        have p2 : (0 : Int) < (m : Int) := by omega
        generalize hq : roomG ((grps l).take k) = q at *
        have g1 : IntKind.i64.wrap (6 + (p.s.size : Int)) = 6 + (p.s.size : Int) := IntWalk.i64_in _ (by omega)
        have g2 : IntKind.i64.wrap (4 + 32 * (l.length : Int) + (q : Int) + (6 + (p.s.size : Int))) = 4 + 32 * (l.length : Int) + (q : Int) + (6 + (p.s.size : Int)) := IntWalk.i64_in _ (by omega)
        clear hq hol
        go_wp2_with fail
        go_round
        case rel => exact ⟨k + 1, by omega, by go_num, by rw [HSK.out]; go_num⟩
        case measure => simp [intOf]; omega
      · obtain rfl : k = (gls l).length := by omega
        have HEQ := Lib.hid (show (4 + 32 * (l.length : Int) + (roomG ((grps l).take (gls l).length) : Nat)) = ((r : Nat) : Int) by rw [HRR.out, HFIN.out]; omega)
        go_wp2_with fail
        go_ret
        exact ⟨by rw [← HEQ.out]; rfl, HB.out⟩
end Go.Proofs.Ytihbjnjpomljjaa
