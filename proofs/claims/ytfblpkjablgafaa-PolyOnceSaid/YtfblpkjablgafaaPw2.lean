/- Contract: poly.limbs. -/
import Derived.Test.YtfblpkjablgafaaPw1
import Derived.Test.YtfblpkjablgafaaBas2
namespace Go.Proofs.Ytfblpkjablgafaa
open Go.RowKit
set_option linter.unusedVariables false
set_option linter.unusedSimpArgs false
def zL5 : List Nat := [0, 0, 0, 0, 0]
def zN5 : Array Value := vq zL5
theorem zero_num (w : World) : (zeroValue 46).run Try.prog w = .ok (.agg zN5) w := by kernel_rfl
theorem number_append : ∀ (l m : List Nat), number (l ++ m) = number l + 256 ^ l.length * number m
  | [], m => by simp [number]
  | a :: l, m => by
    rw [List.cons_append, number, number_append l m, number, List.length_cons, Nat.pow_succ, Nat.add_mul, Nat.mul_right_comm]
    omega
theorem limbL_parts (l : List Nat) (h : l.length = 17) : number l = number (l.take 8) + 18446744073709551616 * number ((l.drop 8).take 8) + 340282366920938463463374607431768211456 * l.getD 16 0 := by
  have e : l = l.take 8 ++ ((l.drop 8).take 8 ++ [l.getD 16 0]) := by
    match l, h with
    | [_, _, _, _, _, _, _, _, _, _, _, _, _, _, _, _, _], _ => rfl
  conv => lhs; rw [e, number_append, number_append]
  rw [List.length_take, List.length_take, List.length_drop, h, show number [l.getD 16 0] = l.getD 16 0 by simp [number]]
  simp only [show (min 8 17) = 8 from rfl, show min 8 (17 - 8) = 8 from rfl]
  omega
theorem built_num (a0 a1 a2 a3 a4 : Nat) : Try.prog.built 46 [(0, .int .u64 (a0 : Nat)), (1, .int .u64 (a1 : Nat)), (2, .int .u64 (a2 : Nat)), (3, .int .u64 (a3 : Nat)), (4, .int .u64 (a4 : Nat))] = some (vq [a0, a1, a2, a3, a4]) := by kernel_rfl
theorem numInfo : (Try.prog.info? 46).map (·.size) = some 5 := by kernel_rfl
theorem ediv_nat (a b : Nat) : (a : Int) / (b : Int) = ((a / b : Nat) : Int) := by simp
set_option maxRecDepth 100000 in
set_option maxHeartbeats 4000000 in
theorem limbs_c (l : List Nat) (w : World) (h17 : l.length = 17) (hl : ∀ c ∈ l, c < 256) :
    Calls Try.prog 25 #[.agg (vb l)] w fun e w' => e = .returned (.agg (vq (limbL (number l)))) ∧ Below w.heap.size w w' := by
  have zf := zero_num
  have zs1 : zN5.size = 5 := by rfl
  have zs2 : ¬ zN5 = #[] := by intro h; have := congrArg Array.size h; rw [zs1] at this; cases this
  have lsz : (vb l).size = 17 := by rw [vb_size, h17]
  have HL := Lib.hid hl
  have HP := Lib.hid (limbL_parts l h17)
  obtain ⟨Z, hZ⟩ : ∃ Z, Z = (w.alloc (Obj.cells (vb l) 52)).alloc (Obj.cells zN5 46) := ⟨_, rfl⟩
  have B0 := Lib.hid (show Below w.heap.size w Z by rw [hZ]; exact ((Below.refl _ _).alloc (Nat.le_refl _) _).alloc (by simp) _)
  have A0 := Lib.hid (show Blk Z w.heap.size 52 (vb l) by rw [hZ]; exact (Blk.new w _ _).alloc _)
  have E0 := Lib.hid (show Blk Z (w.heap.size + 1) 46 zN5 by
    have h1 := Blk.new (w.alloc (Obj.cells (vb l) 52)) 46 zN5
    rw [show (w.alloc (Obj.cells (vb l) 52)).heap.size = w.heap.size + 1 by simp] at h1
    rw [hZ]; exact h1)
  have rd0 : ∀ W, Below Z.heap.size Z W → Rd W (w.heap.size + 1) (some ⟨w.heap.size, 0, none⟩) (byt l) := fun W hb => rd_blk (A0.out.below hb A0.out.lt) (byt l) 17 (by show byt l = ((byt l).toArray.toList).take 17; rw [List.toList_toArray, List.take_of_length_le (by rw [byt_len, h17]; decide)])
  have rd8 : ∀ W, Below Z.heap.size Z W → Rd W (w.heap.size + 1) (some ⟨w.heap.size, 8, none⟩) (byt (l.drop 8)) := fun W hb _ => ⟨_, rfl, Nat.lt_succ_self _, fun j u hu => by
    have h1 := (A0.out.below hb A0.out.lt).cell (8 + j)
    have e : (Addr.add ⟨w.heap.size, 8, none⟩ j) = ⟨w.heap.size, 8 + j, none⟩ := by
      cases j <;> simp [Addr.add]
    rw [e, h1]
    rw [byt, List.map_drop, List.getElem?_drop] at hu
    simpa [vb, byt] using hu⟩
  have HC1 := Lib.hid (fun W hb => low_c (w.heap.size + 1) (some ⟨w.heap.size, 0, none⟩) 17 l W (rd0 W hb) hl (by omega) (by omega) (by omega))
  rw [h17] at HC1
  have HC2 := Lib.hid (fun W hb => low_c (w.heap.size + 1) (some ⟨w.heap.size, 8, none⟩) 9 (l.drop 8) W (rd8 W hb) (fun c hc => hl c (List.mem_of_mem_drop hc)) (by rw [List.length_drop]; omega) (by rw [List.length_drop]; omega) (by omega))
  rw [List.length_drop, h17] at HC2
  have HLO : number (l.take 8) < 18446744073709551616 := by
    have := number_lt (l.take 8) (fun c hc => hl c (List.mem_of_mem_take hc))
    rwa [List.length_take, h17] at this
  have HHI : number ((l.drop 8).take 8) < 18446744073709551616 := by
    have := number_lt ((l.drop 8).take 8) (fun c hc => hl c (List.mem_of_mem_drop (List.mem_of_mem_take hc)))
    rwa [List.length_take, List.length_drop, h17] at this
  have HTP := getD_lt hl 16
  have q16 := A0.out.cell 16
  rw [vb_at l 16 (by omega)] at q16
  generalize number (l.take 8) = lo at *
  generalize number ((l.drop 8).take 8) = hi at *
  generalize l.getD 16 0 = top at *
  obtain ⟨a0, h0⟩ : ∃ a0, a0 = lo % 67108864 := ⟨_, rfl⟩
  obtain ⟨a1, h1⟩ : ∃ a1, a1 = lo / 67108864 % 67108864 := ⟨_, rfl⟩
  obtain ⟨m1, hm1⟩ : ∃ m1, m1 = hi % 4503599627370496 * 4096 := ⟨_, rfl⟩
  obtain ⟨m2, hm2⟩ : ∃ m2, m2 = lo / 4503599627370496 + hi % 4503599627370496 * 4096 := ⟨_, rfl⟩
  obtain ⟨a2, h2⟩ : ∃ a2, a2 = m2 % 67108864 := ⟨_, rfl⟩
  obtain ⟨a3, h3⟩ : ∃ a3, a3 = hi / 16384 % 67108864 := ⟨_, rfl⟩
  obtain ⟨a4, h4⟩ : ∃ a4, a4 = hi / 1099511627776 + top * 16777216 := ⟨_, rfl⟩
  have HV := Lib.hid (show limbL (number l) = [a0, a1, a2, a3, a4] by
    rw [HP.out]
    unfold limbL
    congr 1
    · omega
    congr 1
    · omega
    congr 1
    · omega
    congr 1
    · omega
    congr 1
    omega)
  have f1 : bits BinOp.and IntKind.u64 (lo : Int) 67108863 = (a0 : Int) := by rw [and26 _ HLO, h0]
  have f2 : bits BinOp.and IntKind.u64 ((lo : Int) / 67108864) 67108863 = (a1 : Int) := by
    rw [show (67108864 : Int) = ((67108864 : Nat) : Int) from rfl, ediv_nat, and26 _ (by omega), h1]
  have f3 : IntKind.u64.wrap ((hi : Int) * 4096) = (m1 : Int) := by
    rw [show (hi : Int) * 4096 = ((hi * 4096 : Nat) : Int) by omega, wrap_nat, hm1]; omega
  have f4 : bits BinOp.or IntKind.u64 ((lo : Int) / 4503599627370496) (m1 : Int) = (m2 : Int) := by
    rw [show (4503599627370496 : Int) = ((4503599627370496 : Nat) : Int) from rfl, ediv_nat, hm1, or12 _ _ (by omega) (by omega), hm2]
  have f5 : bits BinOp.and IntKind.u64 (m2 : Int) 67108863 = (a2 : Int) := by rw [and26 _ (by omega), h2]
  have f6 : bits BinOp.and IntKind.u64 ((hi : Int) / 16384) 67108863 = (a3 : Int) := by
    rw [show (16384 : Int) = ((16384 : Nat) : Int) from rfl, ediv_nat, and26 _ (by omega), h3]
  have f7 : bits BinOp.or IntKind.u64 ((hi : Int) / 1099511627776) ((top : Int) * 16777216) = (a4 : Int) := by
    rw [show (1099511627776 : Int) = ((1099511627776 : Nat) : Int) from rfl, ediv_nat, show (top : Int) * 16777216 = ((top * 16777216 : Nat) : Int) by omega, or24 _ _ (by omega) (by omega), h4]
  have HBN := Lib.hid (built_num a0 a1 a2 a3 a4)
  have HSZ := Lib.hid (show (Try.prog.info? 46).map (·.size) = some (vq [a0, a1, a2, a3, a4]).size by rw [vq_size]; exact numInfo)
  have HEQ := Lib.hid (show (vq [a0, a1, a2, a3, a4]).size = zN5.size by rw [vq_size]; rfl)
  clear h0 h1 hm1 hm2 h2 h3 h4
  clear hl rd0 rd8
  go_enter Try.func25, Try.ntmps25
  go_upto_region 1 with fail
  rw [← hZ]
  clear hZ
  have q16e := cell_ext q16
  refine wp_region_loud Z [] (fun _ _ _ => True) (by kernel_rfl) (by kernel_rfl) (by kernel_rfl) (by kernel_rfl) (fun _ _ _ _ h hb => True.intro) (Below.refl _ _).drew ?_
  repeat (first
    | (refine wpLoud_call 7 rfl [] (.int .u64 (lo : Nat)) 33 (fun g => #[.slice (some ⟨w.heap.size, 0, none⟩) 17 17]) rfl (fun _ _ h => by cases h) rfl (fun g w => by kernel_rfl) (fun g z hg => by
        refine (HC1.out z.wd z.bel).mono ?_
        rintro e w' ⟨rfl, rfl⟩
        exact ⟨_, rfl, Below.refl _ _, rfl⟩) _ (by simp only [Act.put, List.setIfInBounds_toArray, List.set_cons_succ, List.set_cons_zero]; rfl) ?_)
    | (refine wpLoud_call 9 rfl [] (.int .u64 (hi : Nat)) 33 (fun g => #[.slice (some ⟨w.heap.size, 8, none⟩) 9 9]) rfl (fun _ _ h => by cases h) rfl (fun g w => by kernel_rfl) (fun g z hg => by
        refine (HC2.out z.wd z.bel).mono ?_
        rintro e w' ⟨rfl, rfl⟩
        exact ⟨_, rfl, Below.refl _ _, rfl⟩) _ (by simp only [Act.put, List.setIfInBounds_toArray, List.set_cons_succ, List.set_cons_zero]; rfl) ?_)
    | (refine wpLoud_plain rfl rfl rfl ?_; intro K hK; go_big_quiet_op; go_big_quiet_on))
  refine wpLoud_end [] (by rfl) ?_
  intro g z hg
  have B1 := Lib.hid (B0.out.trans (z.bel.mono B0.out.size))
  have E1 := Lib.hid (E0.out.below z.bel E0.out.lt)
  generalize z.wd = Y at *
  simp only [fill, Act.put, List.setIfInBounds_toArray, List.set_cons_succ, List.set_cons_zero]
  go_wp2_with (first
    | (refine wpList_valG (by kernel_rfl) (.agg (vq [a0, a1, a2, a3, a4])) (run_built _ 46 _ _ HBN.out #[(0, .tmp 14), (1, .tmp 17), (2, .tmp 23), (3, .tmp 26), (4, .tmp 31)] rfl (by kernel_rfl)) ?_)
    | (refine wpList_store_rowTo rfl 46 (.tmp 2) (.tmp 32) rfl rfl (w.heap.size + 1) (vq [a0, a1, a2, a3, a4]) rfl rfl 46 zN5 E1.out HSZ.out HEQ.out (vq_one _) ?_))
  first
    | rw [Exit.noGoto_ret]
    | skip
  refine bodyPost_ret (results_cell_row rfl _ _ (w.heap.size + 1) 46 (vq [a0, a1, a2, a3, a4]) (0, 0) _ rfl (setRow_heap _ _ zN5 _ 46 (0, 0) E1.out) Try.underlying46 rfl HSZ.out) rfl ?_
  exact ⟨by rw [HV.out], below_row B1.out (by omega) _⟩
end Go.Proofs.Ytfblpkjablgafaa
