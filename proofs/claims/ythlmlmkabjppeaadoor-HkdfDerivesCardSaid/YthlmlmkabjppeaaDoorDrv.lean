/- Contract: a key of a key. -/
import Derived.Test.YthlmlmkabjppeaaDoorMrk
import Derived.Test.YthlmlmkabjppeaaDoorHeld
import Derived.Laws.Cover3
namespace Go.Proofs.YthlmlmkabjppeaaDoor
open Go.RowKit
set_option linter.unusedVariables false
set_option linter.unusedSimpArgs false
def drvI (s : List Nat) (n : Nat) : List Nat := s ++ [0] ++ form n 8
/-- a key of a key -/
def drv (k s : List Nat) (n : Nat) : List Nat := expd k (drvI s n) 32
theorem drv_len (k s : List Nat) (n : Nat) : (drv k s n).length = 32 := expd_len _ _ _
theorem drv_lt (k s : List Nat) (n : Nat) : ∀ c ∈ drv k s n, c < 256 := expd_lt _ _ _
def zKey : Array Value := vb (List.replicate 32 0)
theorem zero_key (w : World) : (zeroValue 47).run Tryd.prog w = .ok (.agg zKey) w := by kernel_rfl
theorem run_one (w : World) (c : Nat) {o : Oper} {a : Act} (x : Operand) (ho : o.op = .buildSlice 22 1 #[(0, x)]) (hx : a.eval x = .int .u8 (c : Nat)) :
    (execOp a.eval o).run Tryd.prog w = .ok (.value (.slice (some ⟨w.heap.size, 0, none⟩) 1 1)) (w.alloc (.cells (byt [c]).toArray 5)) := by
  obtain ⟨i0, hi, hz0, hz1, hz2⟩ := info_parts byteInfo
  have e1 : (#[(0, x)].map fun (p : Nat × Operand) => (p.1, a.eval p.2)).toList = (([Value.int .u8 (c : Nat)].zipIdx 0).map fun x => (x.2, x.1)) := by
    simp [hx]
  have h1 := run_buildSlice (P := Tryd.prog) w 22 5 1 (#[(0, x)].map fun (p : Nat × Operand) => (p.1, a.eval p.2)) (byt [c]).toArray i0 _ Tryd.underlying22 hi hz0 (by rw [hz1]; decide) (by rw [hz1]; decide) (by
    rw [hz1]
    refine (congrArg _ e1).trans ?_
    exact (Great.fill_flat [Value.int .u8 (c : Nat)] _ (fun v hv => by rw [List.mem_singleton.1 hv]; rfl) (by simp)))
  unfold execOp
  simp only [ho, Sem.run_bind, h1, Result.andThen_ok]
  rfl
theorem op_convert {o : Oper} {a : Act} {w w' : World} {t1 t2 : TypeId} {x : Operand} {v u : Value} (ho : o.op = .convert t1 t2 x) (hx : a.eval x = v) (hrun : (convert t1 t2 v).run Tryd.prog w = .ok u w') : (execOp a.eval o).run Tryd.prog w = .ok (.value u) w' := by
  unfold execOp
  simp only [ho, hx, Sem.run_bind, hrun, Result.andThen_ok]
  rfl
theorem op_append {o : Oper} {a : Act} {w w' : World} {t : TypeId} {s x : Operand} {v u r : Value} (ho : o.op = .call { callee := .builtin .append, args := #[s, x], argTypes := #[t, t] }) (hs : a.eval s = v) (hx : a.eval x = u) (hrun : (Builtin.append_ #[t, t] o.type #[v, u]).run Tryd.prog w = .ok r w') : (execOp a.eval o).run Tryd.prog w = .ok (.value r) w' := by
  unfold execOp
  simp only [ho, resolve, invoke, builtin, Sem.run_bind, Sem.run_pure, Result.andThen_ok, List.map_toArray, List.map_cons, List.map_nil, hs, hx, hrun]
theorem rd_newB (w : World) (c : Nat) : Rd (w.alloc (.cells (byt [c]).toArray 5)) (w.heap.size + 1) (some ⟨w.heap.size, 0, none⟩) (byt [c]) := rd_one w _ _
theorem range_of_rd {w : World} {B g : Nat} {l : List Nat} (h : Rd w B (some ⟨g, 0, none⟩) (byt l)) (hne : l ≠ []) : w.rangeAt g 0 (byt l) := by
  obtain ⟨ad, e, hb, hc⟩ := h (by intro h0; have := congrArg List.length h0; rw [byt_len] at this; exact hne (List.eq_nil_of_length_eq_zero this))
  injection e with e
  subst e
  intro j u hu
  have := hc j u hu
  rwa [Addr.add_mid] at this
set_option maxRecDepth 100000 in
set_option maxHeartbeats 8000000 in
theorem derive_c (k s : List Nat) (n : Nat) (w : World) (hk : k.length = 32) (hkl : ∀ c ∈ k, c < 256) (hs : ∀ c ∈ s, c < 256) (hsn : s.length ≤ 1000) (hn : n < 2 ^ 64) (hR : RoundsAt w) :
    Calls Tryd.prog 30 #[.agg (vb k), .string (bstr s), .int .u64 n] w fun e w' => e = .returned (.agg (vb (drv k s n))) ∧ Below w.heap.size w w' := by
  have HK := Lib.hid hk
  have HKL := Lib.hid hkl
  have HS := Lib.hid hs
  have HRO := Lib.hid hR
  have HCV := Lib.hid (fun W => conv_str W s hs (by omega))
  clear hkl hs hR
  have zf := zero_key
  have zs1 : zKey.size = 32 := by rfl
  have zs2 : ¬ zKey = #[] := by intro h; have := congrArg Array.size h; rw [zs1] at this; cases this
  have ksz : (vb k).size = 32 := by rw [vb_size, hk]
  generalize bstr s = SV at *
  go_enter Tryd.func30, Tryd.ntmps30
  go_upto_region 1 with fail
  obtain ⟨Z, hZ⟩ : ∃ Z, Z = (w.alloc (Obj.cells (vb k) 47)).alloc (Obj.cells zKey 47) := ⟨_, rfl⟩
  have HZ := Lib.hid (show Below w.heap.size w Z by rw [hZ]; exact ((Below.refl _ _).alloc (Nat.le_refl _) _).alloc (by simp) _)
  have H3 := Lib.hid (show Blk Z w.heap.size 47 (vb k) by rw [hZ]; exact (Blk.new w _ _).alloc _)
  have H6 := Lib.hid (show Blk Z (w.heap.size + 1) 47 zKey by
    have h1 := Blk.new (w.alloc (Obj.cells (vb k) 47)) 47 zKey
    rw [show (w.alloc (Obj.cells (vb k) 47)).heap.size = w.heap.size + 1 by simp] at h1
    rw [hZ]; exact h1)
  rw [← hZ]
  clear hZ zf zs1 zs2 ksz
  have hdr : ∃ x : Ext Z, Z.drew = x.wd := Ext.of (Below.refl _ _).drew
  refine wp_region_held (S := fun w' => ∃ x : Ext Z, w' = x.wd) (by kernel_rfl) ?_
  show wpAnyH _ _ _ _ _ 13 _ _ Z.drew
  refine anyH_quiet 0 rfl (by kernel_rfl) (by kernel_rfl) (by kernel_rfl) (fun _ _ _ _ h => h) rfl rfl hdr ?_
  intro K hK
  conv => arg 2; whnf
  go_big_quiet_op
  go_big_quiet_on
  refine anyH_quiet 1 rfl (by kernel_rfl) (by kernel_rfl) (by kernel_rfl) (fun _ _ _ _ h => h) rfl rfl hdr ?_
  intro K hK
  conv => arg 2; whnf
  go_big_quiet_op
  go_big_quiet_on
  refine anyH_quiet 5 rfl (by kernel_rfl) (by kernel_rfl) (by kernel_rfl) (fun _ _ _ _ h => h) rfl rfl hdr ?_
  intro K hK
  conv => arg 2; whnf
  go_big_quiet_op
  go_big_quiet_on
  refine anyH_two 2 3 (by kernel_rfl) rfl rfl rfl rfl ?_ ?_
  · obtain ⟨cap, W1, hrun, hmk, hb1⟩ := HCV.out Z.drew
    refine op_value (op_convert rfl rfl hrun) _ (by conv => lhs; arg 2; whnf) ⟨Ext.of ((Below.refl Z.heap.size Z).drew.trans hb1), ?_⟩
    refine anyH_op 3 (by kernel_rfl) rfl rfl ?_
    have hz1 : Below Z.heap.size Z W1 := (Below.refl Z.heap.size Z).drew.trans hb1
    have hz2 : Below Z.heap.size Z (W1.alloc (Obj.cells (byt [0]).toArray 5)) := hz1.alloc hz1.size _
    refine op_value (run_one W1 0 _ rfl rfl) _ (by conv => lhs; arg 2; whnf) ⟨Ext.of hz2, ?_⟩
    obtain ⟨v3, W3, hrun3, ⟨A3, c3, rfl, hr3⟩, hb3'⟩ := app_mark (W1.alloc (Obj.cells (byt [0]).toArray 5)) Z.drew.heap.size cap Z.heap.size s 0 22 (some ⟨W1.heap.size, 0, none⟩) 1 (W1.heap.size + 1) (hmk.next ((Below.refl _ _).alloc (Nat.le_refl _) _)) (Nat.le_refl _) (by omega) (rd_newB W1 0)
    have hb3 : Below Z.heap.size Z W3 := hz2.trans hb3'
    have hr3 : Rd W3 W3.heap.size A3 (byt (s ++ [0])) := hr3
    clear hmk hb1 hz1 hz2 hb3'
    refine anyH_op 4 (by kernel_rfl) rfl rfl ?_
    refine op_value (op_append rfl rfl rfl hrun3) _ (by conv => lhs; arg 2; whnf) ⟨Ext.of hb3, ?_⟩
    refine anyH_op 6 (by kernel_rfl) rfl rfl ?_
    have hput := put_c W3.heap.size A3 c3 (s ++ [0]) n 8 W3 hr3 hn (by decide) (by decide) (by rw [List.length_append]; simp; omega)
    rw [show (s ++ ([0] : List Nat)).length = s.length + 1 by simp, show tailOf n 8 = form n 8 from rfl] at hput
    refine op_call (by kernel_rfl) _ (fun v => by conv => lhs; arg 2; whnf) (hput.mono ?_)
    rintro e W4 ⟨v4, rfl, ho4, hb4⟩
    obtain ⟨A4, c4, rfl, _, _, hr4⟩ := ho4.rd
    have hw4 : Below Z.heap.size Z W4 := hb3.trans (hb4.mono hb3.size)
    refine ⟨_, rfl, Ext.of hw4, ?_⟩
    refine anyH_op 7 (by kernel_rfl) rfl rfl ?_
    have hzw : Below w.heap.size w W4 := HZ.out.trans (hw4.mono HZ.out.size)
    have hdl : (s ++ [0] ++ form n 8).length = s.length + 9 := by simp [form_len]
    have hexp := expand2_c (w.heap.size + 1) W4.heap.size (some ⟨w.heap.size, 0, none⟩) A4 32 c4 k (s ++ [0] ++ form n 8) 32 W4 (rd_blk (H3.out.below hw4 H3.out.lt) (byt k) 32 (by show byt k = ((byt k).toArray.toList).take 32; rw [List.toList_toArray, List.take_of_length_le (by rw [byt_len, HK.out]; decide)])) hr4 (by have := H3.out.lt; have := hw4.size; omega) (Nat.le_refl _) HKL.out (fun c hc => by
        rcases List.mem_append.1 hc with h | h
        · rcases List.mem_append.1 h with h | h
          · exact HS.out c h
          · rw [List.mem_singleton.1 h]; decide
        · exact form_lt _ _ c h) (by rw [HK.out]; decide) (by rw [hdl]; omega) (by decide) (HRO.out.next hzw)
    rw [HK.out] at hexp
    refine op_call (by kernel_rfl) _ (fun v => by conv => lhs; arg 2; whnf) (hexp.mono ?_)
    rintro e W5 ⟨A5, rfl, hr5, hb5, hA5⟩
    obtain ⟨g5, rfl⟩ := hA5 (by decide)
    have HR5 := Lib.hid hr5
    have HW5 := Lib.hid (show Below Z.heap.size Z W5 from hw4.trans (hb5.mono hw4.size))
    clear hr5 hA5 hb5 hzw hdl hr4 ho4 hb4 hw4 hput hb3 hr3
    refine ⟨_, rfl, Ext.of HW5.out, ?_⟩
    simp only [Act.put, List.setIfInBounds_toArray, List.set_cons_succ, List.set_cons_zero]
    refine anyH_quiet 8 rfl (by kernel_rfl) (by kernel_rfl) (by kernel_rfl) (fun _ _ _ _ h => h) rfl rfl (Ext.of HW5.out) ?_
    intro K hK
    conv => arg 2; whnf
    go_big_quiet_op
    go_big_quiet_on
    refine anyH_quiet 9 rfl (by kernel_rfl) (by kernel_rfl) (by kernel_rfl) (fun _ _ _ _ h => h) rfl rfl (Ext.of HW5.out) ?_
    intro K hK
    conv => arg 2; whnf
    go_big_quiet_op
    go_big_quiet_on
    refine anyH_quiet 10 rfl (by kernel_rfl) (by kernel_rfl) (by kernel_rfl) (fun _ _ _ _ h => h) rfl rfl (Ext.of HW5.out) ?_
    intro K hK
    conv => arg 2; whnf
    go_big_quiet_op
    go_big_quiet_on
    refine anyH_quiet 11 rfl (by kernel_rfl) (by kernel_rfl) (by kernel_rfl) (fun _ _ _ _ h => h) rfl rfl (Ext.of HW5.out) ?_
    intro K hK
    conv => arg 2; whnf
    go_big_quiet_op
    go_big_quiet_on
    refine anyH_quiet 12 rfl (by kernel_rfl) (by kernel_rfl) (by kernel_rfl) (fun _ _ _ _ h => h) rfl rfl (Ext.of HW5.out) ?_
    intro K hK
    conv => arg 2; whnf
    go_big_quiet_op
    go_big_quiet_on
    refine wpAnyH_done (by kernel_rfl) ?_ _
    have H65 := Lib.hid (H6.out.below HW5.out H6.out.lt)
    have HBW := Lib.hid (HZ.out.trans (HW5.out.mono HZ.out.size))
    have HRG := Lib.hid (range_of_rd HR5.out (by intro h0; have := congrArg List.length h0; rw [show (expd k (s ++ [0] ++ form n 8) 32).length = 32 from expd_len _ _ _] at this; cases this))
    have HDV : Hid (drv k s n = expd k (s ++ [0] ++ form n 8) 32) := Lib.hid rfl
    rw [← HDV.out] at HRG
    have HDL := Lib.hid (drv_len k s n)
    have HSZ := Lib.hid (show (Tryd.prog.info? 47).map (·.size) = some (vb (drv k s n)).size by rw [vb_size, HDL.out]; kernel_rfl)
    clear HDV HR5 HCV
    obtain ⟨DV, hDV⟩ : ∃ DV, DV = drv k s n := ⟨_, rfl⟩
    rw [← hDV] at HRG HDL HSZ
    have HDVV := Lib.hid hDV
    clear hDV
    have hAA := fun W => run_arrayAt (P := Tryd.prog) (w := W) 47 5 32 (some ⟨g5, 0, none⟩) 32 32 Tryd.underlying47 (Nat.le_refl _)
    have HSL := Lib.hid (show (Tryd.prog.info? 47).map (·.size) = some (byt DV).length by rw [byt_len, HDL.out]; kernel_rfl)
    go_wp2_with (first
      | (refine wpList_loadG rfl 47 (.tmp 21) rfl g5 0 rfl (byt DV) _ HRG.out Tryd.underlying47 rfl HSL.out ?_)
      | (refine wpList_store_rowTo rfl 47 (.tmp 6) (.tmp 22) rfl rfl (w.heap.size + 1) (vb DV) rfl rfl 47 zKey H65.out HSZ.out (by rw [vb_size, HDL.out]; rfl) (vb_one _) ?_))
    first
      | rw [Exit.noGoto_ret]
      | skip
    refine bodyPost_ret (results_cell_row rfl _ _ (w.heap.size + 1) 47 (vb DV) (0, 0) _ rfl (setRow_heap _ _ zKey _ 47 (0, 0) H65.out) Tryd.underlying47 rfl HSZ.out) rfl ?_
    exact ⟨by rw [HDVV.out], below_row HBW.out (by omega) _⟩
  · have hz1 : Below Z.heap.size Z (Z.drew.alloc (Obj.cells (byt [0]).toArray 5)) := (Below.refl Z.heap.size Z).drew.alloc (Nat.le_refl _) _
    refine op_value (run_one Z.drew 0 _ rfl rfl) _ (by conv => lhs; arg 2; whnf) ⟨Ext.of hz1, ?_⟩
    refine anyH_op 2 (by kernel_rfl) rfl rfl ?_
    obtain ⟨cap, W2, hrun, hmk, hb2⟩ := HCV.out (Z.drew.alloc (Obj.cells (byt [0]).toArray 5))
    have hz2 : Below Z.heap.size Z W2 := hz1.trans (hb2.mono hz1.size)
    refine op_value (op_convert rfl rfl hrun) _ (by conv => lhs; arg 2; whnf) ⟨Ext.of hz2, ?_⟩
    obtain ⟨v3, W3, hrun3, ⟨A3, c3, rfl, hr3⟩, hb3'⟩ := app_mark W2 (Z.drew.alloc (Obj.cells (byt [0]).toArray 5)).heap.size cap Z.heap.size s 0 22 (some ⟨Z.drew.heap.size, 0, none⟩) 1 (Z.drew.heap.size + 1) hmk (by have := hz1.size; omega) (by omega) ((rd_newB Z.drew 0).ext hb2)
    have hb3 : Below Z.heap.size Z W3 := hz2.trans hb3'
    have hr3 : Rd W3 W3.heap.size A3 (byt (s ++ [0])) := hr3
    clear hmk hb2 hz1 hz2 hb3'
    refine anyH_op 4 (by kernel_rfl) rfl rfl ?_
    refine op_value (op_append rfl rfl rfl hrun3) _ (by conv => lhs; arg 2; whnf) ⟨Ext.of hb3, ?_⟩
    refine anyH_op 6 (by kernel_rfl) rfl rfl ?_
    have hput := put_c W3.heap.size A3 c3 (s ++ [0]) n 8 W3 hr3 hn (by decide) (by decide) (by rw [List.length_append]; simp; omega)
    rw [show (s ++ ([0] : List Nat)).length = s.length + 1 by simp, show tailOf n 8 = form n 8 from rfl] at hput
    refine op_call (by kernel_rfl) _ (fun v => by conv => lhs; arg 2; whnf) (hput.mono ?_)
    rintro e W4 ⟨v4, rfl, ho4, hb4⟩
    obtain ⟨A4, c4, rfl, _, _, hr4⟩ := ho4.rd
    have hw4 : Below Z.heap.size Z W4 := hb3.trans (hb4.mono hb3.size)
    refine ⟨_, rfl, Ext.of hw4, ?_⟩
    refine anyH_op 7 (by kernel_rfl) rfl rfl ?_
    have hzw : Below w.heap.size w W4 := HZ.out.trans (hw4.mono HZ.out.size)
    have hdl : (s ++ [0] ++ form n 8).length = s.length + 9 := by simp [form_len]
    have hexp := expand2_c (w.heap.size + 1) W4.heap.size (some ⟨w.heap.size, 0, none⟩) A4 32 c4 k (s ++ [0] ++ form n 8) 32 W4 (rd_blk (H3.out.below hw4 H3.out.lt) (byt k) 32 (by show byt k = ((byt k).toArray.toList).take 32; rw [List.toList_toArray, List.take_of_length_le (by rw [byt_len, HK.out]; decide)])) hr4 (by have := H3.out.lt; have := hw4.size; omega) (Nat.le_refl _) HKL.out (fun c hc => by
        rcases List.mem_append.1 hc with h | h
        · rcases List.mem_append.1 h with h | h
          · exact HS.out c h
          · rw [List.mem_singleton.1 h]; decide
        · exact form_lt _ _ c h) (by rw [HK.out]; decide) (by rw [hdl]; omega) (by decide) (HRO.out.next hzw)
    rw [HK.out] at hexp
    refine op_call (by kernel_rfl) _ (fun v => by conv => lhs; arg 2; whnf) (hexp.mono ?_)
    rintro e W5 ⟨A5, rfl, hr5, hb5, hA5⟩
    obtain ⟨g5, rfl⟩ := hA5 (by decide)
    have HR5 := Lib.hid hr5
    have HW5 := Lib.hid (show Below Z.heap.size Z W5 from hw4.trans (hb5.mono hw4.size))
    clear hr5 hA5 hb5 hzw hdl hr4 ho4 hb4 hw4 hput hb3 hr3
    refine ⟨_, rfl, Ext.of HW5.out, ?_⟩
    simp only [Act.put, List.setIfInBounds_toArray, List.set_cons_succ, List.set_cons_zero]
    refine anyH_quiet 8 rfl (by kernel_rfl) (by kernel_rfl) (by kernel_rfl) (fun _ _ _ _ h => h) rfl rfl (Ext.of HW5.out) ?_
    intro K hK
    conv => arg 2; whnf
    go_big_quiet_op
    go_big_quiet_on
    refine anyH_quiet 9 rfl (by kernel_rfl) (by kernel_rfl) (by kernel_rfl) (fun _ _ _ _ h => h) rfl rfl (Ext.of HW5.out) ?_
    intro K hK
    conv => arg 2; whnf
    go_big_quiet_op
    go_big_quiet_on
    refine anyH_quiet 10 rfl (by kernel_rfl) (by kernel_rfl) (by kernel_rfl) (fun _ _ _ _ h => h) rfl rfl (Ext.of HW5.out) ?_
    intro K hK
    conv => arg 2; whnf
    go_big_quiet_op
    go_big_quiet_on
    refine anyH_quiet 11 rfl (by kernel_rfl) (by kernel_rfl) (by kernel_rfl) (fun _ _ _ _ h => h) rfl rfl (Ext.of HW5.out) ?_
    intro K hK
    conv => arg 2; whnf
    go_big_quiet_op
    go_big_quiet_on
    refine anyH_quiet 12 rfl (by kernel_rfl) (by kernel_rfl) (by kernel_rfl) (fun _ _ _ _ h => h) rfl rfl (Ext.of HW5.out) ?_
    intro K hK
    conv => arg 2; whnf
    go_big_quiet_op
    go_big_quiet_on
    refine wpAnyH_done (by kernel_rfl) ?_ _
    have H65 := Lib.hid (H6.out.below HW5.out H6.out.lt)
    have HBW := Lib.hid (HZ.out.trans (HW5.out.mono HZ.out.size))
    have HRG := Lib.hid (range_of_rd HR5.out (by intro h0; have := congrArg List.length h0; rw [show (expd k (s ++ [0] ++ form n 8) 32).length = 32 from expd_len _ _ _] at this; cases this))
    have HDV : Hid (drv k s n = expd k (s ++ [0] ++ form n 8) 32) := Lib.hid rfl
    rw [← HDV.out] at HRG
    have HDL := Lib.hid (drv_len k s n)
    have HSZ := Lib.hid (show (Tryd.prog.info? 47).map (·.size) = some (vb (drv k s n)).size by rw [vb_size, HDL.out]; kernel_rfl)
    clear HDV HR5 HCV
    obtain ⟨DV, hDV⟩ : ∃ DV, DV = drv k s n := ⟨_, rfl⟩
    rw [← hDV] at HRG HDL HSZ
    have HDVV := Lib.hid hDV
    clear hDV
    have hAA := fun W => run_arrayAt (P := Tryd.prog) (w := W) 47 5 32 (some ⟨g5, 0, none⟩) 32 32 Tryd.underlying47 (Nat.le_refl _)
    have HSL := Lib.hid (show (Tryd.prog.info? 47).map (·.size) = some (byt DV).length by rw [byt_len, HDL.out]; kernel_rfl)
    go_wp2_with (first
      | (refine wpList_loadG rfl 47 (.tmp 21) rfl g5 0 rfl (byt DV) _ HRG.out Tryd.underlying47 rfl HSL.out ?_)
      | (refine wpList_store_rowTo rfl 47 (.tmp 6) (.tmp 22) rfl rfl (w.heap.size + 1) (vb DV) rfl rfl 47 zKey H65.out HSZ.out (by rw [vb_size, HDL.out]; rfl) (vb_one _) ?_))
    first
      | rw [Exit.noGoto_ret]
      | skip
    refine bodyPost_ret (results_cell_row rfl _ _ (w.heap.size + 1) 47 (vb DV) (0, 0) _ rfl (setRow_heap _ _ zKey _ 47 (0, 0) H65.out) Tryd.underlying47 rfl HSZ.out) rfl ?_
    exact ⟨by rw [HDVV.out], below_row HBW.out (by omega) _⟩
end Go.Proofs.YthlmlmkabjppeaaDoor
