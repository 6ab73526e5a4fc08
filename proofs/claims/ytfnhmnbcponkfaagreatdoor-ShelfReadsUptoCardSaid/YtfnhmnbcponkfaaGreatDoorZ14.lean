/- Parts, one behind the other: Sf9 LiftQU. -/
import Derived.Test.YtfnhmnbcponkfaaGreatDoorZ13
import Derived.Deep.DeepHandedRow
import Derived.OpenShut
set_option maxRecDepth 100000
set_option linter.unusedVariables false
set_option linter.unusedSimpArgs false
namespace Go.Proofs.YtfnhmnbcponkfaaGreatDoor
open Go.RowKit
def aP : Pc := ⟨ByteArray.mk #[97], 1, 0, 0, 0⟩
theorem aP_ck : ckP aP = true := by decide +kernel
theorem aP_ok : PcOk aP := ⟨by decide, by decide, by decide, by decide, by decide, by decide⟩
theorem aP_merge : mergeL [aP] = [aP] := merge_id (List.pairwise_singleton _ _) (fun p hp => by rw [List.mem_singleton.1 hp]; exact aP_ck)
theorem aP_chk : chkL [aP] = 0 := chk_small _ (List.pairwise_singleton _ _) (fun p hp => by rw [List.mem_singleton.1 hp]; exact aP_ck) (by decide)
theorem aP_seal : sealE tenT [aP] = 0 := by unfold sealE; rw [tenT_name]; exact aP_chk
theorem built_aP : Tryz.prog.built 77 [(0, .string (ByteArray.mk #[97])), (1, .int .i64 1)] = some (pcV aP) := by kernel_rfl
def nnA : List Nat := 5 :: List.replicate 11 0
theorem nnA_len : nnA.length = 12 := by simp [nnA]
theorem nnA_lt : ∀ c ∈ nnA, c < 256 := by
  intro c hc
  rcases List.mem_cons.1 hc with rfl | hc
  · decide
  · rw [List.eq_of_mem_replicate hc]; decide
theorem built_nnA : Tryz.prog.built 57 [(0, .int .u8 5)] = some (vb nnA) := by kernel_rfl
def aB : Bxo := ⟨tenT, 1, nnA, boxL (keyE 1) nnA tenT 1 [aP]⟩
theorem aB_ok : BoOk aB := ⟨nnA_len, nnA_lt, boxL_lt5 _ _ _ _ _ aP_chk, by decide⟩
theorem aB_op : opB kf3 aB = [aP] := by
  unfold opB aB
  simp only [show kf3 1 = some (keyE 1) from rfl]
  exact (open_sealed (keyE 1) nnA tenT 1 [aP] tenT_name aP_chk (fun p hp => by rw [List.mem_singleton.1 hp]; exact aP_ok)).2
theorem aB_opok : OpOk kf3 aB := by
  refine ⟨aB_ok, by decide, ?_, fun k hk => ?_, by rw [aB_op]; decide, fun p hp => ?_⟩
  · have := boxL_le5 (keyE 1) nnA tenT 1 [aP] aP_chk (fun p hp => by rw [List.mem_singleton.1 hp]; exact aP_ok)
    show (boxL (keyE 1) nnA tenT 1 [aP]).length ≤ 100000
    omega
  · have h1 : kf3 1 = some k := hk
    rw [show kf3 1 = some (keyE 1) from rfl] at h1
    injection h1 with h1
    subst h1
    exact ⟨keyE_len 1, keyE_lt (by decide), (open_sealed (keyE 1) nnA tenT 1 [aP] tenT_name aP_chk (fun p hp => by rw [List.mem_singleton.1 hp]; exact aP_ok)).1⟩
  · rw [aB_op] at hp
    rw [List.mem_singleton.1 hp]
    exact ⟨aP_ok, by decide⟩
theorem aB_of : ofT tenT [aB] = aB :: [] := by
  unfold ofT
  rw [List.filter_cons, if_pos (show (aB.t.toList == tenT.toList) = true by rw [beq_iff_eq]; rfl), List.filter_nil]
theorem aB_kept : (keptL 0 (mergeL (opB kf3 aB))).length = 1 := by
  rw [aB_op, aP_merge]
  rfl
theorem blk_ne {w : World} {g g' : Nat} {T T' : TypeId} {cs cs' : Array Value} (h : Blk w g T cs) (h' : Blk w g' T' cs') (hs : cs.size ≠ cs'.size) : g ≠ g' := fun e => by
  subst e
  have h1 : w.heap[g]? = some (.cells cs T (0, 0)) := h
  have h2 : w.heap[g]? = some (.cells cs' T' (0, 0)) := h'
  rw [h1] at h2
  injection h2 with h2
  injection h2 with h2
  exact hs (by rw [h2])
set_option maxHeartbeats 32000000 in
theorem awake29_c (w : World) (hq : QuartersAt w) : Calls Tryz.prog 6 #[] w (Yes w) := by
  have zf := zero_ch
  have zs1 : zCh.size = 45 := by rfl
  have zs2 : ¬ zCh = #[] := by intro h; have := congrArg Array.size h; rw [zs1] at this; cases this
  have zf2 := zero_wk
  have zs3 : zWk.size = 2 := by rfl
  have zs4 : ¬ zWk = #[] := by intro h; have := congrArg Array.size h; rw [zs3] at this; cases this
  have HQ := Lib.hid hq
  have HKC := Lib.hid (show Calls Tryz.prog 13 #[.int .u32 1] w fun en w' => en = .returned (.agg (vb (keyE 1))) ∧ Below w.heap.size w w' from key29_c 1 w (by decide))
  have HWC := Lib.hid (fun W (hb : Below w.heap.size w W) Ap cp (hr : RdP W W.heap.size Ap [aP]) (hc : 1 ≤ cp) => show Calls Tryz.prog 21 #[.agg (vb (keyE 1)), .agg (vb nnA), .string tenT, .int .u32 1, .slice Ap 1 cp] W fun e w' => ∃ g' cg' b, e = .returned (.tuple #[.agg (chV 5 (.slice g' 0 cg') (.slice (some ⟨b, 0, none⟩) 1 1)), .int .i64 0]) ∧ RdX w' (some ⟨b, 0, none⟩) [aB] ∧ Below W.heap.size W w' by
    have h := write29_c [aP] Ap cp (keyE 1) nnA tenT 1 W hr hc (by decide) (fun p hp => by rw [List.mem_singleton.1 hp]; exact ⟨aP_ok, by decide⟩) (keyE_len 1) (keyE_lt (by decide)) nnA_len nnA_lt (by decide) (by decide) (hq.next hb)
    rw [aP_merge] at h
    refine h.mono ?_
    rintro e w' ⟨hb2, h1⟩
    rcases h1 with ⟨h2, _⟩ | ⟨h2, _⟩ | ⟨_, _, h2, _⟩ | ⟨_, _, _, g', cg', b, e1, Ab, cb, hx, hbw, ho⟩
    · cases h2
    · exact absurd h2 (by decide)
    · exact absurd aP_seal h2
    · exact ⟨g', cg', b, e1, rdx_one (x := aB) hx ho aB_ok, hb2⟩)
  obtain ⟨KL, hKL⟩ : ∃ KL, KL = (keptL 0 (mergeL (opB kf3 aB))).length := ⟨_, rfl⟩
  have HKL := Lib.hid (show KL = 1 by rw [hKL]; exact aB_kept)
  have HNX0 := Lib.hid (fun U bw kb (hx : RdX U (some ⟨bw, 0, none⟩) [aB]) (hk : KeysAt U kb 3 (kmV kf3)) (hqU : QuartersAt U) => show Calls Tryz.prog 7 #[.map (some kb), .slice (some ⟨bw, 0, none⟩) 1 1, .string tenT, .int .u32 2, .int .i64 0] U fun e w' => ∃ b Av cv, e = .returned (.tuple #[.agg #[.slice (some ⟨b, 0, none⟩) 1 1, .slice Av KL cv], .bool true, .int .i64 0]) ∧ Blk w' b 57 (vb nnA) ∧ RdP w' w'.heap.size Av (keptL 0 (mergeL (opB kf3 aB))) ∧ Below U.heap.size U w' by
    rw [hKL]
    exact next1_c (some ⟨bw, 0, none⟩) 1 [aB] tenT kb 3 kf3 2 0 aB [] U hx (by decide) (fun b hb => by rw [List.mem_singleton.1 hb]; exact aB_opok.bs) aB_of (by decide) hk aB_opok (by show kf3 1 ≠ none; intro h; cases h) hqU)
  have HBP := Lib.hid built_aP
  have HBN := Lib.hid built_nnA
  obtain ⟨nA, hnA⟩ : ∃ nA, nA = nnA := ⟨_, rfl⟩
  have HNA := Lib.hid hnA
  rw [← hnA] at HWC HNX0 HBN
  obtain ⟨k1, hk1⟩ : ∃ k1, k1 = vb (keyE 1) := ⟨_, rfl⟩
  rw [← hk1] at HKC HWC
  have HNA12 := Lib.hid (show nA.length = 12 by rw [hnA]; exact nnA_len)
  have HNL := Lib.hid (show (Tryz.prog.info? 57).map (·.size) = some (byt nA).length by rw [byt_len, HNA12.out]; kernel_rfl)
  have l3 : ∀ W, (Op.equalIn 10000 57 (.agg (vb nA)) (.agg (vb nA))).run Tryz.prog W = .ok true W := fun W => by
    have h := run_equalIn_barr Tryz.underlying57 Tryz.underlying5 (by kernel_rfl) (by kernel_rfl) nA nA HNA12.out HNA12.out (by rw [hnA]; exact nnA_lt) (by rw [hnA]; exact nnA_lt) W
    rwa [show (nA == nA) = true by rw [beq_iff_eq]] at h
  have l4 : ∀ W, (Op.equalIn 10000 57 (.agg (byt nA).toArray) (.agg (vb nA))).run Tryz.prog W = .ok true W := l3
  have k1s : KL = 1 := HKL.out
  subst k1s
  clear hq hnA hk1 hKL HKL
  go_enter Tryz.func6, Tryz.ntmps6
  go_upto_region 2 with (first
    | (go_at_call 13; (with_reducible refine HKC.out.mono ?_); rintro e W1 ⟨rfl, hb⟩; have HB1 := Lib.hid hb; have HW1 := Lib.hid (HWC.out (W1.alloc (.cells (pcV aP) 77)) (hb.alloc hb.size _) (some ⟨W1.heap.size, 0, none⟩) 1 ((rd_new W1 (pcs [aP]) 77 (0, 0)).more (by simp)) (by decide)); clear hb)
    | (refine wpList_valG (by kernel_rfl) (.agg (vb nA)) (by exact run_built _ 57 [(0, .int .u8 5)] _ HBN.out #[(0, .const (.int .u8 5))] rfl (by kernel_rfl)) ?_)
    | (refine wpList_valG (by kernel_rfl) (.agg (pcV aP)) (by exact run_built _ 77 [(0, .string (ByteArray.mk #[97])), (1, .int .i64 1)] _ HBP.out #[(0, .const (.string (ByteArray.mk #[97]))), (1, .const (.int .i64 1))] rfl (by kernel_rfl)) ?_)
    | (refine wpList_valM rfl _ _ (run_onePc W1 aP (.tmp 9) rfl rfl) ?_)
    | (go_at_call 21; (refine HW1.out.mono ?_); rintro e W2 ⟨g', cg', bw, rfl, hrx, hb⟩; have HB2 := Lib.hid ((HB1.out.alloc HB1.out.size _).trans (hb.mono (by have := HB1.out.size; simp; omega))); have HRX := Lib.hid hrx; clear hb hrx)
    | (refine wpList_store_rowTo rfl 52 (.tmp 1) (.tmp 12) rfl rfl W2.heap.size (chV 5 (.slice g' 0 cg') (.slice (some ⟨bw, 0, none⟩) 1 1)) rfl rfl 52 zCh (by exact heap_alloc_new _ _) (chSz ..) rfl (ch_all ..) ?_))
  obtain ⟨W3, hW3⟩ : ∃ W3, W3 = (W2.alloc (Obj.cells zCh 52)).setRow W2.heap.size (chV 5 (.slice g' 0 cg') (.slice (some ⟨bw, 0, none⟩) 1 1)) := ⟨_, rfl⟩
  have hnr := new_rowP W2 52 zCh (chV 5 (.slice g' 0 cg') (.slice (some ⟨bw, 0, none⟩) 1 1))
  rw [← hW3] at hnr ⊢
  have c43 : W3.cell? ⟨W2.heap.size, 43, none⟩ = some (.slice (some ⟨bw, 0, none⟩) 1 1) := (hnr.1.cell 43).trans rfl
  have HB3 := Lib.hid (HB2.out.trans (hnr.2.mono HB2.out.size))
  have HNX := Lib.hid (fun U (hb : Below W3.heap.size W3 U) kb (hk : KeysAt U kb 3 (kmV kf3)) => HNX0.out U bw kb ((HRX.out.next hnr.2).next hb) hk ((HQ.out.next HB3.out).next hb))
  clear hnr hW3 HKC HWC HW1 HRX HNX0
  obtain ⟨g1, hg1⟩ : ∃ g, g = W2.heap.size := ⟨_, rfl⟩
  rw [← hg1] at c43 ⊢
  clear hg1
  go_upto_region 4 with fail
  have c43x : ∀ x : Ext W3, x.wd.cell? ⟨g1, 43, none⟩ = some (.slice (some ⟨bw, 0, none⟩) 1 1) := fun x => x.cell c43
  have hdr : ∃ x : Ext W3, W3.drew = x.wd := Ext.of (Below.refl _ _).drew
  refine wp_region_held (S := fun w' => ∃ x : Ext W3, w' = x.wd) (by kernel_rfl) ?_
  show wpAnyH _ _ _ _ _ 12 _ _ W3.drew
  refine anyH_quiet 1 rfl (by kernel_rfl) (by kernel_rfl) (by kernel_rfl) (fun _ _ _ _ h => h) rfl rfl hdr ?_
  intro K hK
  conv => arg 2; whnf
  go_big_quiet_op
  go_big_quiet_on
  refine anyH_quiet 2 rfl (by kernel_rfl) (by kernel_rfl) (by kernel_rfl) (fun _ _ _ _ h => h) rfl rfl hdr ?_
  intro K hK
  conv => arg 2; whnf
  go_big_quiet_op
  go_big_quiet_on
  have hU : Below W3.heap.size W3 W3.drew := (Below.refl _ _).drew
  generalize W3.drew = U at *
  clear hdr
  refine anyH_two 0 8 (by kernel_rfl) rfl rfl rfl rfl ?_ ?_
  · refine op_call (by kernel_rfl) _ (fun v => by conv => lhs; arg 2; whnf) ((keys29_c U).mono ?_)
    rintro e U1 ⟨kb, rfl, hkb, hbU1⟩
    have hU1 : Below W3.heap.size W3 U1 := hU.trans (hbU1.mono hU.size)
    refine ⟨_, rfl, Ext.of hU1, ?_⟩
    try simp only [Act.put, List.setIfInBounds_toArray, List.set_cons_succ, List.set_cons_zero]
    refine anyH_two 3 8 (by kernel_rfl) rfl rfl rfl rfl ?_ ?_
    · refine op_call (by kernel_rfl) _ (fun v => by conv => lhs; arg 2; whnf) ((HNX.out U1 hU1 kb hkb).mono ?_)
      rintro e U2 ⟨b, Av, cv, rfl, hbb, hrp, hbU2⟩
      have hU2 : Below W3.heap.size W3 U2 := hU1.trans (hbU2.mono hU1.size)
      refine ⟨_, rfl, Ext.of hU2, ?_⟩
      try simp only [Act.put, List.setIfInBounds_toArray, List.set_cons_succ, List.set_cons_zero]
      refine anyH_quiet 4 rfl (by kernel_rfl) (by kernel_rfl) (by kernel_rfl) (fun _ _ _ _ h => h) rfl rfl (Ext.of hU2) ?_
      intro K hK
      conv => arg 2; whnf
      go_big_quiet_op
      go_big_quiet_on
      refine anyH_quiet 5 rfl (by kernel_rfl) (by kernel_rfl) (by kernel_rfl) (fun _ _ _ _ h => h) rfl rfl (Ext.of hU2) ?_
      intro K hK
      conv => arg 2; whnf
      go_big_quiet_op
      go_big_quiet_on
      refine anyH_quiet 6 rfl (by kernel_rfl) (by kernel_rfl) (by kernel_rfl) (fun _ _ _ _ h => h) rfl rfl (Ext.of hU2) ?_
      intro K hK
      conv => arg 2; whnf
      go_big_quiet_op
      go_big_quiet_on
      refine anyH_quiet 7 rfl (by kernel_rfl) (by kernel_rfl) (by kernel_rfl) (fun _ _ _ _ h => h) rfl rfl (Ext.of hU2) ?_
      intro K hK
      conv => arg 2; whnf
      go_big_quiet_op
      go_big_quiet_on
      refine anyH_op 8 (by kernel_rfl) rfl rfl ?_
      refine op_value (op_allocP rfl zf2 zs4) _ (by conv => lhs; arg 2; whnf) ⟨Ext.of (hU2.alloc hU2.size _), ?_⟩
      try simp only [Act.put, List.setIfInBounds_toArray, List.set_cons_succ, List.set_cons_zero]
      obtain ⟨U3, eU3⟩ : ∃ U3, U3 = U2.alloc (.cells zWk 33) := ⟨_, rfl⟩
      have hbU3 : Below U2.heap.size U2 U3 := by rw [eU3]; exact (Below.refl _ _).alloc (Nat.le_refl _) _
      have hU3 : Below W3.heap.size W3 U3 := hU2.trans (hbU3.mono hU2.size)
      have hzU3 : Blk U3 U2.heap.size 33 zWk := by rw [eU3]; exact Blk.new _ _ _
      rw [← eU3]
      clear eU3
      have hzb : Blk U3 U2.heap.size 33 zWk := hzU3
      have hbb2 : Blk U3 b 57 (vb nA) := hbb.below hbU3 hbb.lt
      obtain ⟨R, eR⟩ : ∃ R, R = U3.setRow U2.heap.size #[.slice (some ⟨b, 0, none⟩) 1 1, .slice Av 1 cv] := ⟨_, rfl⟩
      have hRO : Only (fun i => i = U2.heap.size) U3 R := by rw [eR]; exact setRow_only _ _ _
      have hR : Below W3.heap.size W3 R := by rw [eR]; exact hU3.trans (below_setRowP _ _ _ hU2.size)
      have hRb : Blk R U2.heap.size 33 #[.slice (some ⟨b, 0, none⟩) 1 1, .slice Av 1 cv] := by rw [eR]; exact setRow_heap _ _ zWk _ 33 (0, 0) hzb
      have hbR : Blk R b 57 (vb nA) := (hRO.block b hbb2.lt (fun e => blk_ne hzb hbb2 (by rw [vb_size, HNA12.out]; decide) e.symm)).trans hbb2
      have c0 : R.cell? ⟨U2.heap.size, 0, none⟩ = some (.slice (some ⟨b, 0, none⟩) 1 1) := (hRb.cell 0).trans rfl
      have c1 : R.cell? ⟨U2.heap.size, 1, none⟩ = some (.slice Av 1 cv) := (hRb.cell 1).trans rfl
      refine anyH_op 9 (by kernel_rfl) rfl rfl ?_
      refine wp_store_row 33 (.tmp 3) (.tmp 27) rfl U2.heap.size #[.slice (some ⟨b, 0, none⟩) 1 1, .slice Av 1 cv] rfl rfl 33 zWk hzb (wkSz _ _) rfl (by simp [Value.oneCell']) ?_
      rw [← eR]
      clear eR
      refine ⟨Ext.of hR, ?_⟩
      conv => arg 8; whnf
      try simp only [Act.put, List.setIfInBounds_toArray, List.set_cons_succ, List.set_cons_zero]
      refine anyH_quiet 10 rfl (by kernel_rfl) (by kernel_rfl) (by kernel_rfl) (fun _ _ _ _ h => h) rfl rfl (Ext.of hR) ?_
      intro K hK
      conv => arg 2; whnf
      go_big_quiet_op
      go_big_quiet_on
      refine anyH_quiet 11 rfl (by kernel_rfl) (by kernel_rfl) (by kernel_rfl) (fun _ _ _ _ h => h) rfl rfl (Ext.of hR) ?_
      intro K hK
      conv => arg 2; whnf
      go_big_quiet_op
      go_big_quiet_on
      refine wpAnyH_done (by kernel_rfl) ?_ _
      go_wp2_with (first
        | (refine wpList_loadA (by kernel_rfl) 57 (.tmp 44) rfl ⟨b, 0, none⟩ rfl (byt nA) _ (atA_blk hbR) Tryz.underlying57 rfl HNL.out ?_)
        | (refine wpList_valG (by kernel_rfl) (.agg (vb nA)) (by exact run_built _ 57 [(0, .int .u8 5)] _ HBN.out #[(0, .const (.int .u8 5))] rfl (by kernel_rfl)) ?_))
      go_ret
      exact ⟨rfl, HB3.out.trans (hR.mono HB3.out.size)⟩
    · refine op_value (op_allocP rfl zf2 zs4) _ (by conv => lhs; arg 2; whnf) ⟨Ext.of (hU1.alloc hU1.size _), ?_⟩
      try simp only [Act.put, List.setIfInBounds_toArray, List.set_cons_succ, List.set_cons_zero]
      obtain ⟨U2, eU2⟩ : ∃ U2, U2 = U1.alloc (.cells zWk 33) := ⟨_, rfl⟩
      have hbU2 : Below U1.heap.size U1 U2 := by rw [eU2]; exact (Below.refl _ _).alloc (Nat.le_refl _) _
      have hU2 : Below W3.heap.size W3 U2 := hU1.trans (hbU2.mono hU1.size)
      have hzU2 : Blk U2 U1.heap.size 33 zWk := by rw [eU2]; exact Blk.new _ _ _
      rw [← eU2]
      clear eU2
      refine anyH_op 3 (by kernel_rfl) rfl rfl ?_
      refine op_call (by kernel_rfl) _ (fun v => by conv => lhs; arg 2; whnf) ((HNX.out U2 hU2 kb (hkb.next hbU2)).mono ?_)
      rintro e U3 ⟨b, Av, cv, rfl, hbb, hrp, hbU3⟩
      have hU3 : Below W3.heap.size W3 U3 := hU2.trans (hbU3.mono hU2.size)
      refine ⟨_, rfl, Ext.of hU3, ?_⟩
      try simp only [Act.put, List.setIfInBounds_toArray, List.set_cons_succ, List.set_cons_zero]
      refine anyH_quiet 4 rfl (by kernel_rfl) (by kernel_rfl) (by kernel_rfl) (fun _ _ _ _ h => h) rfl rfl (Ext.of hU3) ?_
      intro K hK
      conv => arg 2; whnf
      go_big_quiet_op
      go_big_quiet_on
      refine anyH_quiet 5 rfl (by kernel_rfl) (by kernel_rfl) (by kernel_rfl) (fun _ _ _ _ h => h) rfl rfl (Ext.of hU3) ?_
      intro K hK
      conv => arg 2; whnf
      go_big_quiet_op
      go_big_quiet_on
      refine anyH_quiet 6 rfl (by kernel_rfl) (by kernel_rfl) (by kernel_rfl) (fun _ _ _ _ h => h) rfl rfl (Ext.of hU3) ?_
      intro K hK
      conv => arg 2; whnf
      go_big_quiet_op
      go_big_quiet_on
      refine anyH_quiet 7 rfl (by kernel_rfl) (by kernel_rfl) (by kernel_rfl) (fun _ _ _ _ h => h) rfl rfl (Ext.of hU3) ?_
      intro K hK
      conv => arg 2; whnf
      go_big_quiet_op
      go_big_quiet_on
      have hzb : Blk U3 U1.heap.size 33 zWk := hzU2.below hbU3 hzU2.lt
      have hbb2 : Blk U3 b 57 (vb nA) := hbb
      obtain ⟨R, eR⟩ : ∃ R, R = U3.setRow U1.heap.size #[.slice (some ⟨b, 0, none⟩) 1 1, .slice Av 1 cv] := ⟨_, rfl⟩
      have hRO : Only (fun i => i = U1.heap.size) U3 R := by rw [eR]; exact setRow_only _ _ _
      have hR : Below W3.heap.size W3 R := by rw [eR]; exact hU3.trans (below_setRowP _ _ _ hU1.size)
      have hRb : Blk R U1.heap.size 33 #[.slice (some ⟨b, 0, none⟩) 1 1, .slice Av 1 cv] := by rw [eR]; exact setRow_heap _ _ zWk _ 33 (0, 0) hzb
      have hbR : Blk R b 57 (vb nA) := (hRO.block b hbb2.lt (fun e => blk_ne hzb hbb2 (by rw [vb_size, HNA12.out]; decide) e.symm)).trans hbb2
      have c0 : R.cell? ⟨U1.heap.size, 0, none⟩ = some (.slice (some ⟨b, 0, none⟩) 1 1) := (hRb.cell 0).trans rfl
      have c1 : R.cell? ⟨U1.heap.size, 1, none⟩ = some (.slice Av 1 cv) := (hRb.cell 1).trans rfl
      refine anyH_op 9 (by kernel_rfl) rfl rfl ?_
      refine wp_store_row 33 (.tmp 3) (.tmp 27) rfl U1.heap.size #[.slice (some ⟨b, 0, none⟩) 1 1, .slice Av 1 cv] rfl rfl 33 zWk hzb (wkSz _ _) rfl (by simp [Value.oneCell']) ?_
      rw [← eR]
      clear eR
      refine ⟨Ext.of hR, ?_⟩
      conv => arg 8; whnf
      try simp only [Act.put, List.setIfInBounds_toArray, List.set_cons_succ, List.set_cons_zero]
      refine anyH_quiet 10 rfl (by kernel_rfl) (by kernel_rfl) (by kernel_rfl) (fun _ _ _ _ h => h) rfl rfl (Ext.of hR) ?_
      intro K hK
      conv => arg 2; whnf
      go_big_quiet_op
      go_big_quiet_on
      refine anyH_quiet 11 rfl (by kernel_rfl) (by kernel_rfl) (by kernel_rfl) (fun _ _ _ _ h => h) rfl rfl (Ext.of hR) ?_
      intro K hK
      conv => arg 2; whnf
      go_big_quiet_op
      go_big_quiet_on
      refine wpAnyH_done (by kernel_rfl) ?_ _
      go_wp2_with (first
        | (refine wpList_loadA (by kernel_rfl) 57 (.tmp 44) rfl ⟨b, 0, none⟩ rfl (byt nA) _ (atA_blk hbR) Tryz.underlying57 rfl HNL.out ?_)
        | (refine wpList_valG (by kernel_rfl) (.agg (vb nA)) (by exact run_built _ 57 [(0, .int .u8 5)] _ HBN.out #[(0, .const (.int .u8 5))] rfl (by kernel_rfl)) ?_))
      go_ret
      exact ⟨rfl, HB3.out.trans (hR.mono HB3.out.size)⟩
  · refine op_value (op_allocP rfl zf2 zs4) _ (by conv => lhs; arg 2; whnf) ⟨Ext.of (hU.alloc hU.size _), ?_⟩
    try simp only [Act.put, List.setIfInBounds_toArray, List.set_cons_succ, List.set_cons_zero]
    obtain ⟨U1, eU1⟩ : ∃ U1, U1 = U.alloc (.cells zWk 33) := ⟨_, rfl⟩
    have hbU1 : Below U.heap.size U U1 := by rw [eU1]; exact (Below.refl _ _).alloc (Nat.le_refl _) _
    have hU1 : Below W3.heap.size W3 U1 := hU.trans (hbU1.mono hU.size)
    have hzU1 : Blk U1 U.heap.size 33 zWk := by rw [eU1]; exact Blk.new _ _ _
    rw [← eU1]
    clear eU1
    refine anyH_op 0 (by kernel_rfl) rfl rfl ?_
    refine op_call (by kernel_rfl) _ (fun v => by conv => lhs; arg 2; whnf) ((keys29_c U1).mono ?_)
    rintro e U2 ⟨kb, rfl, hkb, hbU2⟩
    have hU2 : Below W3.heap.size W3 U2 := hU1.trans (hbU2.mono hU1.size)
    refine ⟨_, rfl, Ext.of hU2, ?_⟩
    try simp only [Act.put, List.setIfInBounds_toArray, List.set_cons_succ, List.set_cons_zero]
    refine anyH_op 3 (by kernel_rfl) rfl rfl ?_
    refine op_call (by kernel_rfl) _ (fun v => by conv => lhs; arg 2; whnf) ((HNX.out U2 hU2 kb hkb).mono ?_)
    rintro e U3 ⟨b, Av, cv, rfl, hbb, hrp, hbU3⟩
    have hU3 : Below W3.heap.size W3 U3 := hU2.trans (hbU3.mono hU2.size)
    refine ⟨_, rfl, Ext.of hU3, ?_⟩
    try simp only [Act.put, List.setIfInBounds_toArray, List.set_cons_succ, List.set_cons_zero]
    refine anyH_quiet 4 rfl (by kernel_rfl) (by kernel_rfl) (by kernel_rfl) (fun _ _ _ _ h => h) rfl rfl (Ext.of hU3) ?_
    intro K hK
    conv => arg 2; whnf
    go_big_quiet_op
    go_big_quiet_on
    refine anyH_quiet 5 rfl (by kernel_rfl) (by kernel_rfl) (by kernel_rfl) (fun _ _ _ _ h => h) rfl rfl (Ext.of hU3) ?_
    intro K hK
    conv => arg 2; whnf
    go_big_quiet_op
    go_big_quiet_on
    refine anyH_quiet 6 rfl (by kernel_rfl) (by kernel_rfl) (by kernel_rfl) (fun _ _ _ _ h => h) rfl rfl (Ext.of hU3) ?_
    intro K hK
    conv => arg 2; whnf
    go_big_quiet_op
    go_big_quiet_on
    refine anyH_quiet 7 rfl (by kernel_rfl) (by kernel_rfl) (by kernel_rfl) (fun _ _ _ _ h => h) rfl rfl (Ext.of hU3) ?_
    intro K hK
    conv => arg 2; whnf
    go_big_quiet_op
    go_big_quiet_on
    have hzb : Blk U3 U.heap.size 33 zWk := (hzU1.below hbU2 hzU1.lt).below hbU3 (Nat.lt_of_lt_of_le hzU1.lt hbU2.size)
    have hbb2 : Blk U3 b 57 (vb nA) := hbb
    obtain ⟨R, eR⟩ : ∃ R, R = U3.setRow U.heap.size #[.slice (some ⟨b, 0, none⟩) 1 1, .slice Av 1 cv] := ⟨_, rfl⟩
    have hRO : Only (fun i => i = U.heap.size) U3 R := by rw [eR]; exact setRow_only _ _ _
    have hR : Below W3.heap.size W3 R := by rw [eR]; exact hU3.trans (below_setRowP _ _ _ hU.size)
    have hRb : Blk R U.heap.size 33 #[.slice (some ⟨b, 0, none⟩) 1 1, .slice Av 1 cv] := by rw [eR]; exact setRow_heap _ _ zWk _ 33 (0, 0) hzb
    have hbR : Blk R b 57 (vb nA) := (hRO.block b hbb2.lt (fun e => blk_ne hzb hbb2 (by rw [vb_size, HNA12.out]; decide) e.symm)).trans hbb2
    have c0 : R.cell? ⟨U.heap.size, 0, none⟩ = some (.slice (some ⟨b, 0, none⟩) 1 1) := (hRb.cell 0).trans rfl
    have c1 : R.cell? ⟨U.heap.size, 1, none⟩ = some (.slice Av 1 cv) := (hRb.cell 1).trans rfl
    refine anyH_op 9 (by kernel_rfl) rfl rfl ?_
    refine wp_store_row 33 (.tmp 3) (.tmp 27) rfl U.heap.size #[.slice (some ⟨b, 0, none⟩) 1 1, .slice Av 1 cv] rfl rfl 33 zWk hzb (wkSz _ _) rfl (by simp [Value.oneCell']) ?_
    rw [← eR]
    clear eR
    refine ⟨Ext.of hR, ?_⟩
    conv => arg 8; whnf
    try simp only [Act.put, List.setIfInBounds_toArray, List.set_cons_succ, List.set_cons_zero]
    refine anyH_quiet 10 rfl (by kernel_rfl) (by kernel_rfl) (by kernel_rfl) (fun _ _ _ _ h => h) rfl rfl (Ext.of hR) ?_
    intro K hK
    conv => arg 2; whnf
    go_big_quiet_op
    go_big_quiet_on
    refine anyH_quiet 11 rfl (by kernel_rfl) (by kernel_rfl) (by kernel_rfl) (fun _ _ _ _ h => h) rfl rfl (Ext.of hR) ?_
    intro K hK
    conv => arg 2; whnf
    go_big_quiet_op
    go_big_quiet_on
    refine wpAnyH_done (by kernel_rfl) ?_ _
    go_wp2_with (first
      | (refine wpList_loadA (by kernel_rfl) 57 (.tmp 44) rfl ⟨b, 0, none⟩ rfl (byt nA) _ (atA_blk hbR) Tryz.underlying57 rfl HNL.out ?_)
      | (refine wpList_valG (by kernel_rfl) (.agg (vb nA)) (by exact run_built _ 57 [(0, .int .u8 5)] _ HBN.out #[(0, .const (.int .u8 5))] rfl (by kernel_rfl)) ?_))
    go_ret
    exact ⟨rfl, HB3.out.trans (hR.mono HB3.out.size)⟩
end Go.Proofs.YtfnhmnbcponkfaaGreatDoor
namespace Go.Proofs.YtfnhmnbcponkfaaGreatDoor
open Go.ChangeShapes Go.WideShapes Go.ChangeAt Go.RowKit
theorem bulk_one {H : Type} (d : DataW H) : 1 ≤ Rows.uptoBulk d := by
  cases d with
  | lit l => cases l <;> simp [Rows.uptoBulk]
  | nil => simp [Rows.uptoBulk]
  | ptr d => simp [Rows.uptoBulk]
  | slice elems spare => simp [Rows.uptoBulk]
  | agg parts => simp [Rows.uptoBulk]
  | iface t d => simp [Rows.uptoBulk]
  | map entries => simp [Rows.uptoBulk]
  | held h => simp [Rows.uptoBulk]
theorem bulk_len {H : Type} (l : List (DataW H)) : l.length ≤ Rows.uptoBulkAll l := by
  induction l with
  | nil => simp [Rows.uptoBulkAll]
  | cons x r ih => have := bulk_one x; simp only [Rows.uptoBulkAll, List.length_cons]; omega
theorem bulk_part {H : Type} {d : DataW H} {l : List (DataW H)} (h : d ∈ l) : Rows.uptoBulk d ≤ Rows.uptoBulkAll l := by
  induction l with
  | nil => cases h
  | cons x r ih =>
    simp only [Rows.uptoBulkAll]
    cases List.mem_cons.1 h with
    | inl e => subst e; omega
    | inr e => have := ih e; omega
theorem row_bulk {H : Type} {enc : TypeId × Value → H} {W : World} {t e : TypeId} {A : Option Addr} {n c : Nat} {d : DataW H} {p : List MemPlace} (ht : Tryz.prog.underlying t = some (.slice e))
    (h : DataW.Trod enc Tryz.prog W 0 (fun _ => true) true t (.slice A n c) d p) : n ≤ Rows.uptoBulk d := by
  obtain ⟨fuel, hf⟩ := h
  rcases DataW.trod_slice ht hf with ⟨hcs, _⟩ | ⟨a, len', cap', elems, rest, m, _, hcs, hx, hb, hl, hm, hlen, helem, _, _⟩
  · simp [Value.cells] at hcs
    omega
  · simp [Value.cells] at hcs
    obtain ⟨rfl, rfl, rfl⟩ := hcs
    injection hx with hx _
    subst hx
    have := bulk_len (elems.map (·.1))
    rw [List.length_map] at this
    simp only [Rows.uptoBulk]
    omega
theorem witnessU {H : Type} {enc : TypeId × Value → H} {os : Os} {f : FuncId} {fn : Func} {s : OpenSpec} {conds : List PathCond} {laid : List (String × DataW Unit)} (w0 : World) (args : Array Value) (hos : w0.os = os)
    (hsh : (w0.forCall (fun _ _ => 0) ⟨#[], args, []⟩).Shaped Tryz.checked.prog)
    (hok : Input.okWideB Tryz.checked.prog (w0.forCall (fun _ _ => 0) ⟨#[], args, []⟩) f ⟨#[], args, []⟩ = true)
    (hrow : s.preRow enc Tryz.checked.prog fn conds false laid (w0.forCall (fun _ _ => 0) ⟨#[], args, []⟩).memory args) :
    ∃ (w : World) (tape : Tape) (i : Input), w.os = os ∧ (w.forCall tape i).Shaped Tryz.checked.prog ∧ i.vars = [] ∧ Input.okWide Tryz.checked.prog (w.forCall tape i) .any w.heap.size f i ∧
      s.preRow enc Tryz.checked.prog fn conds false laid (w.forCall tape i).memory i.args ∧ ({} : Assume).holds Tryz.checked.prog (lone (Frame.enter Tryz.checked.prog f i.args .normal) [] (w.forCall tape i)) :=
  ⟨w0, fun _ _ => 0, ⟨#[], args, []⟩, hos, hsh, (Input.okWide_of_okWideB (base := 0) hok).1, (Input.okWide_of_okWideB hok).2, hrow, by
    simp only [Assume.holds]
    exact ⟨by simp, by simp, by simp, by simp, by simp⟩⟩
theorem liftQU {os : Os} (started : os.Started) {H : Type} {enc : TypeId × Value → H} (F : Stop.Interp) (f : FuncId) {fn : Func} {s : ChangeSpec}
    (noInit : Tryz.checked.prog.inits.idxOf? f = none) (hfn : Tryz.checked.prog.funcs[f]? = some fn) (hs : LawSpec s fn.params.toList.length) (hres : fn.resultTypes = #[4])
    (hts : ∀ t ∈ fn.params.toList, Tryz.prog.readableRec t = true ∧ t < Tryz.prog.types.size)
    (witness : ∃ (w : World) (tape : Tape) (i : Input), w.os = os ∧ (w.forCall tape i).Shaped Tryz.checked.prog ∧ i.vars = [] ∧ Input.okWide Tryz.checked.prog (w.forCall tape i) .any w.heap.size f i ∧
      (Rows.OpenSpec.upto s).preRow enc Tryz.checked.prog fn [] false laidQ (w.forCall tape i).memory i.args ∧ ({} : Assume).holds Tryz.checked.prog (lone (Frame.enter Tryz.checked.prog f i.args .normal) [] (w.forCall tape i)))
    (walk : ∀ (W : World) (base : Nat) (args : Array Value) (ds : List (DataW H)) (ps : List MemPlace), QuartersAt W → Rows.uptoBulkAll ds ≤ 1048576 →
      (∀ (j : Nat) t v, fn.params[j]? = some t → args[j]? = some v → Value.okWide Tryz.prog W .any base t v) →
      DataW.TrodAll enc Tryz.prog W 0 (fun _ => true) true fn.params.toList args.toList ds ps → (∀ x ∈ ps, x.block < W.heap.size) → Calls Tryz.prog f args W (Yes W)) :
    ReturnsInHanded {} Tryz.checked os f .any ((Rows.OpenSpec.upto s).preRow enc Tryz.prog fn [] false laidQ) (((Rows.OpenSpec.upto s).at F).post enc Tryz.prog fn false true false false) := by
  refine returnsInHanded_of_row (C := Tryz.checked) (s := Rows.OpenSpec.upto s) own started noInit hfn witness ?_
  intro W base args ds gs before hval hW _ hk _ hL _ _
  have hk2 := hk _ rfl
  have hW2 : DataW.Whole enc Tryz.prog fn.params.toList s.vars false W args.toList ds gs before := hW
  have hW' := hW2
  have hlt : ∀ p ∈ before, p.block < W.heap.size := fun p hp => hW2.lt p hp
  obtain ⟨p, q, hA, hV, hbef, hfz, hnd⟩ := hW2
  rw [hs.1] at hV
  obtain ⟨rfl, rfl⟩ := trodVars_none hV
  rw [List.append_nil] at hbef
  subst hbef
  have hbulk : Rows.uptoBulkAll ds ≤ 1048576 := by
    rw [List.append_nil] at hk2
    simpa [Rows.uptoSmall] using hk2
  refine (walk W base args ds _ (of_laidQ hL) hbulk hval hA hlt).mono fun e W' ⟨he, bel⟩ => ?_
  subst he
  have hlen := trodAll_length _ _ _ _ hA
  have hfn' := hs.2 H ds hlen
  refine ⟨_, rfl, ?_⟩
  show s.post enc Tryz.prog fn false true false false W args _ W'
  refine ⟨ds, [], before, [], before, [], hW', ?_, ?_, ?_, bel.frame _, fun h => by cases h⟩
  · rw [List.append_nil, hfn', hres]
    exact trodAll_mk1 (shut_bool Tryz.underlying4 _)
  · rw [List.append_nil, hfn']
    exact trodAll_below laidOut bel _ _ _ _ hts hA hlt
  · rw [List.append_nil, hfn', hs.1]; rfl
end Go.Proofs.YtfnhmnbcponkfaaGreatDoor
