/- Contracts: which piece stands ahead. -/
import Derived.Test.YtlidfmbmlhaacaaDf1
import Derived.Great.BuildSlice
namespace Go.Proofs.Ytlidfmbmlhaacaa
open Go.RowKit
set_option linter.unusedVariables false
set_option linter.unusedSimpArgs false
theorem heap2 (w : World) (a b : Obj) : ((((w.alloc a).alloc b))).heap[w.heap.size + 1]? = some b := by
  have h := heap_alloc_new (w.alloc a) b
  have e : (w.alloc a).heap.size = w.heap.size + 1 := by simp
  rw [e] at h
  exact h
def orL : List Int → Int
  | [] => 0
  | x :: l => if x = 0 then orL l else x
def ints (l : List Int) : List Value := l.map fun x => .int .i64 x
def IntsAt (w : World) (g : Nat) (l : List Int) : Prop := Blk w g 3 (ints l).toArray
theorem IntsAt.at_ {w : World} {g : Nat} {l : List Int} (h : IntsAt w g l) (i : Nat) (hi : i < l.length) : w.cell? ⟨g, i, none⟩ = some (.int .i64 (l.getD i 0)) := by
  refine (Blk.cell h i).trans ?_
  simp [ints, List.getD_eq_getElem?_getD, hi]
theorem or_c (g c : Nat) (l : List Int) (w : World) (h : IntsAt w g l) (hl : l.length ≤ 100) :
    Calls Try.prog 42 #[.slice (some ⟨g, 0, none⟩) l.length c] w fun e w' => e = .returned (.int .i64 (orL l)) ∧ w = w' := by
  have HH := Lib.hid h
  clear h
  go_enter Try.func42, Try.ntmps42
  go_wp2
  go_loop [8] (fun i => ∃ k : Nat, k ≤ l.length ∧ i = .int .i64 k ∧ orL l = orL (l.drop k)) (fun i => l.length - (intOf i).toNat)
  case atStart => exact ⟨0, Nat.zero_le _, rfl, rfl⟩
  case round =>
    obtain ⟨k, hk, rfl, hd⟩ := hrel
    have HD := Lib.hid hd
    clear hd
    by_cases hlt : k < l.length
    · have e0 := HH.out.at_ k hlt
      have HDK := Lib.hid (show l.drop k = l.getD k 0 :: l.drop (k + 1) by rw [List.drop_eq_getElem_cons hlt]; simp [List.getD_eq_getElem?_getD, hlt])
      generalize l.getD k 0 = x at *
      have p1 : (k : Int) < (l.length : Int) := by omega
      by_cases hx : x = 0
      · subst hx
        go_wp2
        go_round
        case rel => exact ⟨k + 1, by omega, by go_num, by rw [HD.out, HDK.out]; rfl⟩
        case measure => simp [intOf]; omega
      · have t0 : (x != 0) = true := by rw [bne_iff_ne]; exact hx
        have HX := Lib.hid hx
        clear hx
        go_wp2
        go_ret
        exact ⟨by rw [HD.out, HDK.out, orL, if_neg HX.out]; rfl, rfl⟩
    · obtain rfl : k = l.length := by omega
      go_wp2
      go_ret
      exact ⟨by rw [HD.out, List.drop_length]; rfl, rfl⟩
theorem intInfo : (Try.prog.info? 3).map (fun i => (i.zero, i.size, i.bytes)) = some (some (.int .i64 0), 1, 8) := by kernel_rfl
theorem run_ints (w : World) (l : List Int) {o : Oper} {ρ : Operand → Value} (xs : Array (Nat × Operand)) (ho : o.op = .buildSlice 90 l.length xs)
    (hx : (xs.map fun (p : Nat × Operand) => (p.1, ρ p.2)).toList = (((ints l).zipIdx 0).map fun x => (x.2, x.1))) (hlen : l.length ≤ 1000) (hpos : 0 < l.length) :
    (execOp ρ o).run Try.prog w = .ok (.value (.slice (some ⟨w.heap.size, 0, none⟩) l.length l.length)) (w.alloc (.cells (ints l).toArray 3)) := by
  obtain ⟨i0, hi, hz0, hz1, hz2⟩ := info_parts intInfo
  have h1 := run_buildSlice (P := Try.prog) w 90 3 l.length (xs.map fun (p : Nat × Operand) => (p.1, ρ p.2)) (ints l).toArray i0 _ Try.underlying90 hi hz0 (by rw [hz1]; omega) (by rw [hz1]; omega) (by
    rw [hz1]
    refine (congrArg _ hx).trans ?_
    exact (Great.fill_flat (ints l) _ (fun v hv => by
      obtain ⟨p, _, rfl⟩ := List.mem_map.1 hv
      rfl) (by simp [ints])))
  unfold execOp
  simp only [ho, Sem.run_bind, h1, Result.andThen_ok]
  rfl
def IntsV (l : List Int) (u : Value) (W : World) : Prop := ∃ g, u = .slice (some ⟨g, 0, none⟩) l.length l.length ∧ IntsAt W g l
theorem IntsV.next {l : List Int} {u : Value} {W W' : World} (h : IntsV l u W) (hb : Below W.heap.size W W') : IntsV l u W' := by
  obtain ⟨g, e, h⟩ := h
  exact ⟨g, e, Blk.below h hb (Blk.lt h)⟩
theorem IntsV.or_ {l : List Int} {u : Value} {W : World} (h : IntsV l u W) (hl : l.length ≤ 100) : Calls Try.prog 42 #[u] W fun e w' => e = .returned (.int .i64 (orL l)) ∧ W = w' := by
  obtain ⟨g, rfl, h⟩ := h
  exact or_c g _ l W h hl
def idV (n d : Nat) : Array Value := #[.int .u64 (n : Int), .int .u16 (d : Int)]
def cmpD (n d n2 d2 : Nat) : Int := orL [cmpI n n2, cmpI d d2]
set_option maxRecDepth 100000 in
set_option maxHeartbeats 4000000 in
theorem ids_c (n d n2 d2 : Nat) (w : World) : Calls Try.prog 40 #[.agg (idV n d), .agg (idV n2 d2)] w fun e w' => e = .returned (.int .i64 (cmpD n d n2 d2)) ∧ Below w.heap.size w w' := by
  go_enter Try.func40, Try.ntmps40
  go_upto_region 1 with (first
    | (refine Go.Great.wpList_boxTo rfl 29 (.tmp 0) rfl (some 2) rfl w.heap.size rfl (idV n d) rfl ?_)
    | (refine Go.Great.wpList_boxTo rfl 29 (.tmp 1) rfl (some 3) rfl (w.heap.size + 1) (by simp) (idV n2 d2) rfl ?_))
  obtain ⟨Z, hZ⟩ : ∃ Z, Z = (w.alloc (Obj.cells (idV n d) 29)).alloc (Obj.cells (idV n2 d2) 29) := ⟨_, rfl⟩
  have H1 := show Blk Z w.heap.size 29 (idV n d) by rw [hZ]; exact (Blk.new w _ _).alloc _
  have H2 := show Blk Z (w.heap.size + 1) 29 (idV n2 d2) by rw [hZ]; exact heap2 w _ _
  have HB := Lib.hid (show Below w.heap.size w Z by rw [hZ]; exact ((Below.refl _ _).alloc (Nat.le_refl _) _).alloc (by simp) _)
  rw [← hZ]
  clear hZ
  have c0 := cell_ext (show Z.cell? ⟨w.heap.size, 0, none⟩ = some (.int .u64 (n : Int)) from (H1.cell 0).trans rfl)
  have c1 := cell_ext (show Z.cell? ⟨w.heap.size, 1, none⟩ = some (.int .u16 (d : Int)) from (H1.cell 1).trans rfl)
  have c2 := cell_ext (show Z.cell? ⟨w.heap.size + 1, 0, none⟩ = some (.int .u64 (n2 : Int)) from (H2.cell 0).trans rfl)
  have c3 := cell_ext (show Z.cell? ⟨w.heap.size + 1, 1, none⟩ = some (.int .u16 (d2 : Int)) from (H2.cell 1).trans rfl)
  clear H1 H2
  refine wp_region_loud Z [15] (fun _ u W => IntsV [cmpI n n2, cmpI d d2] u W) (by kernel_rfl) (by kernel_rfl) (by kernel_rfl) (by kernel_rfl) (fun _ _ _ _ h hb => h.next hb) (Below.refl _ _).drew ?_
  repeat (first
    | (refine wpLoud_call 9 rfl [] (.int .i64 (cmpI n n2)) 56 (fun g => #[.int .u64 (n : Int), .int .u64 (n2 : Int)]) rfl (fun _ _ h => by cases h) rfl (fun g w => by kernel_rfl) (fun g z hg => by
        refine (cmp_u64 _ _ z.wd).mono ?_
        rintro e w' ⟨rfl, rfl⟩
        exact ⟨_, rfl, Below.refl _ _, rfl⟩) _ (by simp only [Act.put, List.setIfInBounds_toArray, List.set_cons_succ, List.set_cons_zero]; rfl) ?_)
    | (refine wpLoud_call 14 rfl [] (.int .i64 (cmpI d d2)) 57 (fun g => #[.int .u16 (d : Int), .int .u16 (d2 : Int)]) rfl (fun _ _ h => by cases h) rfl (fun g w => by kernel_rfl) (fun g z hg => by
        refine (cmp_u16 _ _ z.wd).mono ?_
        rintro e w' ⟨rfl, rfl⟩
        exact ⟨_, rfl, Below.refl _ _, rfl⟩) _ (by simp only [Act.put, List.setIfInBounds_toArray, List.set_cons_succ, List.set_cons_zero]; rfl) ?_)
    | (refine wpLoud_make rfl (fun _ _ h => by cases h) rfl 15 rfl rfl (fun y => ⟨_, _, run_ints y.wd [cmpI n n2, cmpI d d2] #[(0, .tmp 9), (1, .tmp 14)] rfl (by kernel_rfl) (by simp) (by simp), (Below.refl _ _).alloc (Nat.le_refl _) _, ⟨_, rfl, Blk.new _ _ _⟩⟩) _ (by simp only [Act.put, List.setIfInBounds_toArray, List.set_cons_succ, List.set_cons_zero]; rfl) ?_)
    | (refine wpLoud_call 16 rfl [15] (.int .i64 (cmpD n d n2 d2)) 42 (fun g => #[g 15]) rfl (fun _ _ h => by cases h) rfl (fun g w => by kernel_rfl) (fun g z hg => by
        refine ((hg 15 (by simp)).or_ (by simp)).mono ?_
        rintro e w' ⟨rfl, rfl⟩
        exact ⟨_, rfl, Below.refl _ _, rfl⟩) _ (by simp only [Act.put, List.setIfInBounds_toArray, List.set_cons_succ, List.set_cons_zero]; rfl) ?_)
    | (refine wpLoud_plain rfl rfl rfl ?_; intro K hK; go_big_quiet_op; go_big_quiet_on))
  refine wpLoud_end [] (by rfl) ?_
  intro g z hg
  have HBZ := Lib.hid (HB.out.trans (z.bel.mono HB.out.size))
  generalize z.wd = Y2 at *
  simp only [fill, Act.put, List.setIfInBounds_toArray, List.set_cons_succ, List.set_cons_zero]
  go_wp2_with fail
  go_ret
  exact ⟨rfl, HBZ.out⟩
def pcL (p : Pc) : List Value := [.string p.s, .int .i64 p.t, .int .i64 p.v, .int .u64 (p.n : Int), .int .u16 (p.d : Int)]
def pcV (p : Pc) : Array Value := (pcL p).toArray
def cmpP (a b : Pc) : Int := orL [cmpS a.s b.s, cmpI a.t b.t, cmpD a.n a.d b.n b.d]
def lessP (a b : Pc) : Bool := decide (cmpP a b < 0)
theorem idInfo : (Try.prog.info? 29).map (·.size) = some 2 := by kernel_rfl
theorem rangeAt_id {w : World} {g : Nat} {p : Pc} (h : Blk w g 31 (pcV p)) : w.rangeAt g 3 (idV p.n p.d).toList := fun i u hu => by
  refine (h.cell (3 + i)).trans ?_
  rw [← hu]
  match i with
  | 0 => rfl
  | 1 => rfl
  | i + 2 =>
    rw [show 3 + (i + 2) = i + 5 by omega]
    rfl
set_option maxRecDepth 100000 in
set_option maxHeartbeats 4000000 in
theorem compare_c (p q : Pc) (w : World) : Calls Try.prog 41 #[.agg (pcV p), .agg (pcV q)] w fun e w' => e = .returned (.int .i64 (cmpP p q)) ∧ Below w.heap.size w w' := by
  go_enter Try.func41, Try.ntmps41
  go_upto_region 1 with (first
    | (refine Go.Great.wpList_boxTo rfl 31 (.tmp 0) rfl (some 2) rfl w.heap.size rfl (pcV p) rfl ?_)
    | (refine Go.Great.wpList_boxTo rfl 31 (.tmp 1) rfl (some 3) rfl (w.heap.size + 1) (by simp) (pcV q) rfl ?_))
  obtain ⟨Z, hZ⟩ : ∃ Z, Z = (w.alloc (Obj.cells (pcV p) 31)).alloc (Obj.cells (pcV q) 31) := ⟨_, rfl⟩
  have h1 := show Blk Z w.heap.size 31 (pcV p) by rw [hZ]; exact (Blk.new w _ _).alloc _
  have h2 := show Blk Z (w.heap.size + 1) 31 (pcV q) by rw [hZ]; exact heap2 w _ _
  have HB := Lib.hid (show Below w.heap.size w Z by rw [hZ]; exact ((Below.refl _ _).alloc (Nat.le_refl _) _).alloc (by simp) _)
  rw [← hZ]
  clear hZ
  have c0 := cell_ext (show Z.cell? ⟨w.heap.size, 0, none⟩ = some (.string p.s) from (h1.cell 0).trans rfl)
  have c1 := cell_ext (show Z.cell? ⟨w.heap.size, 1, none⟩ = some (.int .i64 p.t) from (h1.cell 1).trans rfl)
  have c2 := cell_ext (show Z.cell? ⟨w.heap.size + 1, 0, none⟩ = some (.string q.s) from (h2.cell 0).trans rfl)
  have c3 := cell_ext (show Z.cell? ⟨w.heap.size + 1, 1, none⟩ = some (.int .i64 q.t) from (h2.cell 1).trans rfl)
  have H1 := Lib.hid h1
  have H2 := Lib.hid h2
  have HII := Lib.hid idInfo
  clear h1 h2
  refine wp_region_loud Z [20] (fun _ u W => IntsV [cmpS p.s q.s, cmpI p.t q.t, cmpD p.n p.d q.n q.d] u W) (by kernel_rfl) (by kernel_rfl) (by kernel_rfl) (by kernel_rfl) (fun _ _ _ _ h hb => h.next hb) (Below.refl _ _).drew ?_
  repeat (first
    | (refine wpLoud_loadB rfl rfl 29 (.tmp 15) rfl w.heap.size 3 rfl (idV p.n p.d) _ (fun z => rangeAt_id (H1.out.below z.bel H1.out.lt)) Try.underlying29 rfl HII.out _ (by simp only [Act.put, List.setIfInBounds_toArray, List.set_cons_succ, List.set_cons_zero]; rfl) ?_)
    | (refine wpLoud_loadB rfl rfl 29 (.tmp 17) rfl (w.heap.size + 1) 3 rfl (idV q.n q.d) _ (fun z => rangeAt_id (H2.out.below z.bel H2.out.lt)) Try.underlying29 rfl HII.out _ (by simp only [Act.put, List.setIfInBounds_toArray, List.set_cons_succ, List.set_cons_zero]; rfl) ?_)
    | (refine wpLoud_call 9 rfl [] (.int .i64 (cmpS p.s q.s)) 58 (fun g => #[.string p.s, .string q.s]) rfl (fun _ _ h => by cases h) rfl (fun g w => by kernel_rfl) (fun g z hg => by
        refine (cmp_s _ _ z.wd).mono ?_
        rintro e w' ⟨rfl, rfl⟩
        exact ⟨_, rfl, Below.refl _ _, rfl⟩) _ (by simp only [Act.put, List.setIfInBounds_toArray, List.set_cons_succ, List.set_cons_zero]; rfl) ?_)
    | (refine wpLoud_call 14 rfl [] (.int .i64 (cmpI p.t q.t)) 43 (fun g => #[.int .i64 p.t, .int .i64 q.t]) rfl (fun _ _ h => by cases h) rfl (fun g w => by kernel_rfl) (fun g z hg => by
        refine (cmp_i64 _ _ z.wd).mono ?_
        rintro e w' ⟨rfl, rfl⟩
        exact ⟨_, rfl, Below.refl _ _, rfl⟩) _ (by simp only [Act.put, List.setIfInBounds_toArray, List.set_cons_succ, List.set_cons_zero]; rfl) ?_)
    | (refine wpLoud_call 19 rfl [] (.int .i64 (cmpD p.n p.d q.n q.d)) 40 (fun g => #[.agg (idV p.n p.d), .agg (idV q.n q.d)]) rfl (fun _ _ h => by cases h) rfl (fun g w => by kernel_rfl) (fun g z hg => by
        refine (ids_c _ _ _ _ z.wd).mono ?_
        rintro e w' ⟨rfl, hb⟩
        exact ⟨_, rfl, hb, rfl⟩) _ (by simp only [Act.put, List.setIfInBounds_toArray, List.set_cons_succ, List.set_cons_zero]; rfl) ?_)
    | (refine wpLoud_make rfl (fun _ _ h => by cases h) rfl 20 rfl rfl (fun y => ⟨_, _, run_ints y.wd [cmpS p.s q.s, cmpI p.t q.t, cmpD p.n p.d q.n q.d] #[(0, .tmp 9), (1, .tmp 14), (2, .tmp 19)] rfl (by kernel_rfl) (by simp) (by simp), (Below.refl _ _).alloc (Nat.le_refl _) _, ⟨_, rfl, Blk.new _ _ _⟩⟩) _ (by simp only [Act.put, List.setIfInBounds_toArray, List.set_cons_succ, List.set_cons_zero]; rfl) ?_)
    | (refine wpLoud_call 21 rfl [20] (.int .i64 (cmpP p q)) 42 (fun g => #[g 20]) rfl (fun _ _ h => by cases h) rfl (fun g w => by kernel_rfl) (fun g z hg => by
        refine ((hg 20 (by simp)).or_ (by simp)).mono ?_
        rintro e w' ⟨rfl, rfl⟩
        exact ⟨_, rfl, Below.refl _ _, rfl⟩) _ (by simp only [Act.put, List.setIfInBounds_toArray, List.set_cons_succ, List.set_cons_zero]; rfl) ?_)
    | (refine wpLoud_plain rfl rfl rfl ?_; intro K hK; go_big_quiet_op; go_big_quiet_on))
  refine wpLoud_end [] (by rfl) ?_
  intro g z hg
  have HBZ := Lib.hid (HB.out.trans (z.bel.mono HB.out.size))
  generalize z.wd = Y2 at *
  simp only [fill, Act.put, List.setIfInBounds_toArray, List.set_cons_succ, List.set_cons_zero]
  go_wp2_with fail
  go_ret
  exact ⟨rfl, HBZ.out⟩
theorem pcInfo (p : Pc) : (Try.prog.info? 31).map (·.size) = some (pcV p).size := by
  show _ = some 5
  kernel_rfl
set_option maxRecDepth 100000 in
set_option maxHeartbeats 4000000 in
theorem less_c (p q : Pc) (w : World) : Calls Try.prog 27 #[.agg (pcV p), .agg (pcV q)] w fun e w' => e = .returned (.bool (lessP p q)) ∧ Below w.heap.size w w' := by
  have HLP := Lib.hid (show lessP p q = decide (cmpP p q < 0) from rfl)
  have HCC := Lib.hid (fun W => compare_c p q W)
  have HI1 := Lib.hid (pcInfo p)
  have HI2 := Lib.hid (pcInfo q)
  generalize cmpP p q = r at *
  generalize lessP p q = b at *
  go_enter Try.func27, Try.ntmps27
  go_upto_region 1 with (first
    | (refine Go.Great.wpList_boxTo rfl 31 (.tmp 0) rfl (some 2) rfl w.heap.size rfl (pcV p) rfl ?_)
    | (refine Go.Great.wpList_boxTo rfl 31 (.tmp 1) rfl (some 3) rfl (w.heap.size + 1) (by simp) (pcV q) rfl ?_))
  obtain ⟨Z, hZ⟩ : ∃ Z, Z = (w.alloc (Obj.cells (pcV p) 31)).alloc (Obj.cells (pcV q) 31) := ⟨_, rfl⟩
  have H1 := Lib.hid (show Blk Z w.heap.size 31 (pcV p) by rw [hZ]; exact (Blk.new w _ _).alloc _)
  have H2 := Lib.hid (show Blk Z (w.heap.size + 1) 31 (pcV q) by rw [hZ]; exact heap2 w _ _)
  have HB := Lib.hid (show Below w.heap.size w Z by rw [hZ]; exact ((Below.refl _ _).alloc (Nat.le_refl _) _).alloc (by simp) _)
  rw [← hZ]
  clear hZ
  go_wp2_with (first
    | (refine wpList_load_row rfl 31 (.tmp 2) rfl w.heap.size rfl 31 (pcV p) (0, 0) _ H1.out Try.underlying31 rfl HI1.out ?_)
    | (refine wpList_load_row rfl 31 (.tmp 3) rfl (w.heap.size + 1) rfl 31 (pcV q) (0, 0) _ H2.out Try.underlying31 rfl HI2.out ?_)
    | (go_at_call 41; (refine (HCC.out Z).mono ?_); rintro e W1 ⟨rfl, hb⟩; have HB1 := Lib.hid (HB.out.trans (hb.mono HB.out.size)); clear hb))
  go_ret
  exact ⟨by rw [HLP.out]; rfl, HB1.out⟩
end Go.Proofs.Ytlidfmbmlhaacaa
