/- Contracts: a hello's proof, by the code and by the document. -/
import Derived.Test.YthlmlmkabjppeaaDoorCh6
namespace Go.Proofs.YthlmlmkabjppeaaDoor
open Go.RowKit
set_option linter.unusedVariables false
set_option linter.unusedSimpArgs false
theorem zero_sumK (w : World) : (zeroValue 26).run Tryd.prog w = .ok (.agg zKey) w := by kernel_rfl
/-- what a proof is of -/
def prfM (f t a b : Nat) : List Nat := form f 2 ++ form t 2 ++ form a 8 ++ form b 8
def prf (n : Nat) (k : List Nat) (f t a b : Nat) : List Nat := mac (drv k helT n) (prfM f t a b)
theorem prfM_lt (f t a b : Nat) : ∀ c ∈ prfM f t a b, c < 256 := by
  intro c hc
  rcases List.mem_append.1 hc with h | h
  · rcases List.mem_append.1 h with h | h
    · rcases List.mem_append.1 h with h | h
      · exact form_lt _ _ c h
      · exact form_lt _ _ c h
    · exact form_lt _ _ c h
  · exact form_lt _ _ c h
theorem put_w (B : Nat) (A : Option Addr) (ca : Nat) (l : List Nat) (n k : Nat) (wd : Int) (w : World) (hr : Rd w B A (byt l)) (hn : n < 2 ^ 64) (h1 : l.length ≤ 10000000) (hk : tailOf n wd = form n k) (hw1 : -9223372036854775808 ≤ wd) (hw2 : wd ≤ 9223372036854775807) :
    Calls Tryd.prog 52 #[.slice A l.length ca, .int .u64 n, .int .i64 wd] w (Gives (l ++ form n k) w) := by
  have h := put_c B A ca l n wd w hr hn hw1 hw2 h1
  rw [hk] at h
  exact h
theorem rd_nil (w : World) (B : Nat) (A : Option Addr) : Rd w B A (byt []) := fun h => absurd rfl h
set_option maxRecDepth 100000 in
set_option maxHeartbeats 8000000 in
theorem proof_c (n : Nat) (k : List Nat) (f t a b : Nat) (w : World) (hk : k.length = 32) (hkl : ∀ c ∈ k, c < 256) (hn : n < 2 ^ 64) (hf : f < 65536) (ht : t < 65536) (ha : a < 2 ^ 64) (hb : b < 2 ^ 64) (hR : RoundsAt w) :
    Calls Tryd.prog 37 #[.agg (chV n k), .int .u16 (f : Nat), .int .u16 (t : Nat), .int .u64 (a : Nat), .int .u64 (b : Nat)] w fun e w' => e = .returned (.agg (vb (prf n k f t a b))) ∧ Below w.heap.size w w' := by
  have zf := zero_key
  have zf2 := zero_sumK
  have zs1 : zKey.size = 32 := by rfl
  have zs2 : ¬ zKey = #[] := by intro h; have := congrArg Array.size h; rw [zs1] at this; cases this
  have csz := chV_size n k hk
  have wf0 : IntKind.u64.wrap (f : Int) = (f : Int) := by simp [IntKind.wrap, IntKind.signed, IntKind.bits]; omega
  have wt0 : IntKind.u64.wrap (t : Int) = (t : Int) := by simp [IntKind.wrap, IntKind.signed, IntKind.bits]; omega
  have f1 : (form f 2).length = 2 := form_len _ _
  have f2 : (form t 2).length = 2 := form_len _ _
  have f3 : (form a 8).length = 8 := form_len _ _
  have f4 : (form b 8).length = 8 := form_len _ _
  obtain ⟨L1, hL1⟩ : ∃ L1, L1 = ([] : List Nat) ++ form f 2 := ⟨_, rfl⟩
  obtain ⟨L2, hL2⟩ : ∃ L2, L2 = L1 ++ form t 2 := ⟨_, rfl⟩
  obtain ⟨L3, hL3⟩ : ∃ L3, L3 = L2 ++ form a 8 := ⟨_, rfl⟩
  obtain ⟨L4, hL4⟩ : ∃ L4, L4 = L3 ++ form b 8 := ⟨_, rfl⟩
  obtain ⟨D, hD⟩ : ∃ D, D = drv k helT n := ⟨_, rfl⟩
  obtain ⟨M, hM⟩ : ∃ M, M = mac D L4 := ⟨_, rfl⟩
  have hPM : L4 = prfM f t a b := by rw [hL4, hL3, hL2, hL1, List.nil_append]; rfl
  have HF := Lib.hid (show prf n k f t a b = M by rw [hM, hD, hPM]; rfl)
  have n1 : L1.length = 2 := by rw [hL1, List.nil_append, f1]
  have n2 : L2.length = 4 := by rw [hL2, List.length_append, n1, f2]
  have n3 : L3.length = 12 := by rw [hL3, List.length_append, n2, f3]
  have n4 : L4.length = 20 := by rw [hL4, List.length_append, n3, f4]
  have HN4 := Lib.hid n4
  have HT4 := Lib.hid (show ∀ c ∈ L4, c < 256 by rw [hPM]; exact prfM_lt f t a b)
  have l1 : D.length = 32 := by rw [hD, drv_len]
  have t1 : ∀ c ∈ D, c < 256 := by rw [hD]; exact drv_lt _ _ _
  have lM : M.length = 32 := by rw [hM]; exact mac_len _ _
  have HC1 := Lib.hid (fun W (h : RoundsAt W) => derive_c k helT n W hk hkl helT_lt (by decide) hn h)
  rw [← hD] at HC1
  have HP1 := Lib.hid (fun W => put_w 0 none 0 [] f 2 2 W (rd_nil _ _ _) (by omega) (by decide) rfl (by decide) (by decide))
  rw [← hL1, List.length_nil] at HP1
  have HP2 := Lib.hid (fun W B A c (h : Rd W B A (byt L1)) => put_w B A c L1 t 2 2 W h (by omega) (by omega) rfl (by decide) (by decide))
  rw [← hL2] at HP2
  have HP3 := Lib.hid (fun W B A c (h : Rd W B A (byt L2)) => put_w B A c L2 a 8 8 W h ha (by omega) rfl (by decide) (by decide))
  rw [← hL3] at HP3
  have HP4 := Lib.hid (fun W B A c (h : Rd W B A (byt L3)) => put_w B A c L3 b 8 8 W h hb (by omega) rfl (by decide) (by decide))
  rw [← hL4] at HP4
  have HMC := Lib.hid (fun W B C A E ca cb (h : Rd W B A (byt D)) (h2 : Rd W C E (byt L4)) (hB : B ≤ W.heap.size) (hC : C ≤ W.heap.size) (hr : RoundsAt W) => mac_c B C A E ca cb D L4 W h h2 hB hC t1 HT4.out (by omega) (by omega) hr)
  rw [← hM, l1] at HMC
  have HL1 := Lib.hid l1
  have HLM := Lib.hid lM
  have HIL := Lib.hid (show (Tryd.prog.info? 47).map (·.size) = some (byt k).length by rw [byt_len, hk]; kernel_rfl)
  have HS1 := Lib.hid (show (Tryd.prog.info? 47).map (·.size) = some (vb D).size by rw [vb_size, l1]; kernel_rfl)
  have HSM := Lib.hid (show (Tryd.prog.info? 26).map (·.size) = some (vb M).size by rw [vb_size, lM]; kernel_rfl)
  have HRO := Lib.hid hR
  clear hkl hD l1 t1 hM lM hL1 hL2 hL3 hL4 hPM n1 n2 n3 n4 f1 f2 f3 f4 hR
  obtain ⟨Z, hZ⟩ : ∃ Z, Z = (w.alloc (Obj.cells (chV n k) 52)).alloc (Obj.cells zKey 26) := ⟨_, rfl⟩
  have B0 := Lib.hid (show Below w.heap.size w Z by rw [hZ]; exact ((Below.refl _ _).alloc (Nat.le_refl _) _).alloc (by simp) _)
  have A0 := Lib.hid (show Blk Z w.heap.size 52 (chV n k) by rw [hZ]; exact (Blk.new w _ _).alloc _)
  have E0 := Lib.hid (show Blk Z (w.heap.size + 1) 26 zKey by
    have h1 := Blk.new (w.alloc (Obj.cells (chV n k) 52)) 26 zKey
    rw [show (w.alloc (Obj.cells (chV n k) 52)).heap.size = w.heap.size + 1 by simp] at h1
    rw [hZ]; exact h1)
  have HR0 := Lib.hid (HRO.out.next B0.out)
  have c0 := chC0 A0.out
  go_enter Tryd.func37, Tryd.ntmps37
  go_upto_region 1 with fail
  rw [← hZ]
  clear hZ
  go_upto_region 2 with (first
    | (refine wpList_loadG rfl 47 (.tmp 13) rfl w.heap.size 1 rfl (byt k) _ (by exact chR1 A0.out) Tryd.underlying47 rfl HIL.out ?_)
    | (go_at_call 30; (refine (HC1.out _ HR0.out).mono ?_); rintro e w1 ⟨rfl, hb⟩; have E1p := Lib.hid (E0.out.below hb E0.out.lt); have B1p := Lib.hid (B0.out.trans (hb.mono B0.out.size)); clear hb)
    | (refine wpList_store_rowTo rfl 47 (.tmp 11) (.tmp 17) rfl rfl w1.heap.size (vb D) rfl rfl 47 zKey (by exact Blk.new _ _ _) HS1.out (by rw [vb_size, HL1.out]; rfl) (vb_one _) ?_; have hnc := new_row 47 w1 D; obtain ⟨Y1, hY1⟩ : ∃ Y, Y = (w1.alloc (Obj.cells zKey 47)).setRow w1.heap.size (vb D) := ⟨_, rfl⟩; rw [← hY1] at hnc; rw [← hY1]; have P1 := Lib.hid hnc.1; have E1 := Lib.hid (E1p.out.below hnc.2 E1p.out.lt); have B1 := Lib.hid (B1p.out.trans (hnc.2.mono B1p.out.size)); clear hnc hY1))
  clear c0
  go_upto_region 3 with (first
    | (go_at_call 52; (refine (HP1.out _).mono ?_); rintro e w2 ⟨v2, rfl, ho, hb⟩; obtain ⟨A2, c2, rfl, _, _, r2⟩ := ho.rd; have R2 := Lib.hid r2; have P2 := Lib.hid (P1.out.below hb P1.out.lt); have E2 := Lib.hid (E1.out.below hb E1.out.lt); have B2 := Lib.hid (B1.out.trans (hb.mono B1.out.size)); clear hb ho r2 HP1)
    | (go_at_call 52; (refine (HP2.out _ _ _ _ R2.out).mono ?_); rintro e w3 ⟨v3, rfl, ho, hb⟩; obtain ⟨A3, c3, rfl, _, _, r3⟩ := ho.rd; have R3 := Lib.hid r3; have P3 := Lib.hid (P2.out.below hb P2.out.lt); have E3 := Lib.hid (E2.out.below hb E2.out.lt); have B3 := Lib.hid (B2.out.trans (hb.mono B2.out.size)); clear hb ho r3 HP2))
  have HRO3 := Lib.hid (HRO.out.next B3.out)
  refine wp_region_loudTail 7 w3 [27, 29] (fun i u W => OwnB W w3.heap.size u (if i = 27 then L3 else L4)) (by kernel_rfl) (by kernel_rfl) (by kernel_rfl) (by kernel_rfl) (fun _ _ _ _ h hb => OwnB.next h hb) (Below.refl _ _).drew ?_
  simp only [List.take_succ_cons, List.take_zero, List.drop_succ_cons, List.drop_zero]
  repeat (first
    | (refine wpLoud_call 27 rfl [] tok 52 (fun g => #[.slice A3 L2.length c3, .int .u64 (a : Nat), .int .i64 8]) rfl (fun _ _ h => by cases h) rfl (fun g w => by kernel_rfl) (fun g z hg => by
        refine (HP3.out _ _ _ _ (R3.out.ext z.bel)).mono ?_
        rintro e w' ⟨u, rfl, ho, hb⟩
        exact ⟨u, rfl, hb, own_base_le ho z.2.size⟩) _ (by simp only [Act.put, List.setIfInBounds_toArray, List.set_cons_succ, List.set_cons_zero]; rfl) ?_)
    | (refine wpLoud_call 29 rfl [27] tok 52 (fun g => #[g 27, .int .u64 (b : Nat), .int .i64 8]) rfl (fun _ _ h => by cases h) rfl (fun g w => by kernel_rfl) (fun g z hg => by
        have h6 : OwnB z.wd w3.heap.size (g 27) L3 := hg 27 (by simp)
        obtain ⟨A6, c6, e6, _, _, r6⟩ := h6.rd
        show Calls _ _ #[g 27, _, _] _ _
        rw [e6]
        refine (HP4.out _ _ _ _ r6).mono ?_
        rintro e w' ⟨u, rfl, ho, hb⟩
        exact ⟨u, rfl, hb, own_base_le ho z.2.size⟩) _ (by simp only [Act.put, List.setIfInBounds_toArray, List.set_cons_succ, List.set_cons_zero]; rfl) ?_)
    | (refine wpLoud_call 30 rfl [29] (.agg (vb M)) 13 (fun g => #[.slice (some ⟨w1.heap.size, 0, none⟩) 32 32, g 29]) rfl (fun _ _ h => by cases h) rfl (fun g w => by kernel_rfl) (fun g z hg => by
        have h6 : OwnB z.wd w3.heap.size (g 29) L4 := hg 29 (by simp)
        obtain ⟨A6, c6, e6, _, _, r6⟩ := h6.rd
        show Calls _ _ #[_, g 29] _ _
        rw [e6]
        have PZ := P3.out.below z.bel P3.out.lt
        refine (HMC.out _ (w1.heap.size + 1) _ _ _ 32 _ (rd_blk PZ (byt D) 32 (by show byt D = ((byt D).toArray.toList).take 32; rw [List.toList_toArray, List.take_of_length_le (by rw [byt_len, HL1.out]; decide)])) r6 PZ.lt (Nat.le_refl _) (HRO3.out.next z.bel)).mono ?_
        rintro e w' ⟨rfl, hb⟩
        exact ⟨_, rfl, hb, rfl⟩) _ (by simp only [Act.put, List.setIfInBounds_toArray, List.set_cons_succ, List.set_cons_zero]; rfl) ?_)
    | (refine wpLoud_plain rfl rfl rfl ?_; intro K hK; go_big_quiet_op; go_big_quiet_on))
  refine wpLoud_end [] (by rfl) ?_
  intro g z hg
  have HBZ := Lib.hid (B3.out.trans (z.bel.mono B3.out.size))
  have E4 := Lib.hid (E3.out.below z.bel E3.out.lt)
  generalize z.wd = Y2 at *
  simp only [fill, Act.put, List.setIfInBounds_toArray, List.set_cons_succ, List.set_cons_zero]
  generalize g 27 = g27
  generalize g 29 = g29
  go_wp2_with (first
    | (refine wpList_store_rowTo rfl 26 (.tmp 10) (.tmp 30) rfl rfl (w.heap.size + 1) (vb M) rfl rfl 26 zKey E4.out HSM.out (by rw [vb_size, HLM.out]; rfl) (vb_one _) ?_))
  first
    | rw [Exit.noGoto_ret]
    | skip
  refine bodyPost_ret (results_cell_row rfl _ _ (w.heap.size + 1) 26 (vb M) (0, 0) _ rfl (setRow_heap _ _ zKey _ 26 (0, 0) E4.out) Tryd.underlying26 rfl HSM.out) rfl ?_
  exact ⟨by rw [HF.out], below_row HBZ.out (by omega) _⟩
end Go.Proofs.YthlmlmkabjppeaaDoor
