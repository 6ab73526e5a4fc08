/- Contracts: a session's key, by the code and by the document. -/
import Derived.Test.YthlmlmkabjppeaaDoorCh4
namespace Go.Proofs.YthlmlmkabjppeaaDoor
open Go.RowKit
set_option linter.unusedVariables false
set_option linter.unusedSimpArgs false
def sesT : List Nat := [115, 101, 115, 115, 105, 111, 110]
def froT : List Nat := [102, 114, 111, 109]
def tooT : List Nat := [116, 111]
def helT : List Nat := [104, 101, 108, 108, 111]
theorem sesT_lt : ∀ c ∈ sesT, c < 256 := by decide
theorem froT_lt : ∀ c ∈ froT, c < 256 := by decide
theorem tooT_lt : ∀ c ∈ tooT, c < 256 := by decide
theorem helT_lt : ∀ c ∈ helT, c < 256 := by decide
/-- a session's key -/
def ses (k : List Nat) (f t a b : Nat) : List Nat := drv (drv (drv k sesT (f * 65536 + t)) froT a) tooT b
theorem or_16 (f t : Nat) (hf : f < 65536) (ht : t < 65536) : Go.bits BinOp.or IntKind.u64 ((f : Int) * 65536) (t : Int) = ((f * 65536 + t : Nat) : Int) := by
  have e : (f : Int) * 65536 = ((f * 65536 : Nat) : Int) := by omega
  rw [e, u64_or_nat _ _ (by omega) (by omega), show f * 65536 = 2 ^ 16 * f by omega, Nat.two_pow_add_eq_or_of_lt (i := 16) ht f]
/-- a store of a key into new memory -/
theorem new_row (T : TypeId) (w : World) (L : List Nat) : Blk ((w.alloc (Obj.cells zKey T)).setRow w.heap.size (vb L)) w.heap.size T (vb L) ∧ Below w.heap.size w ((w.alloc (Obj.cells zKey T)).setRow w.heap.size (vb L)) :=
  ⟨setRow_heap _ _ _ _ _ (0, 0) (Blk.new w _ _), below_row ((Below.refl _ _).alloc (Nat.le_refl _) _) (Nat.le_refl _) _⟩
set_option maxRecDepth 100000 in
set_option maxHeartbeats 8000000 in
theorem session_c (n : Nat) (k : List Nat) (f t a b : Nat) (w : World) (hk : k.length = 32) (hkl : ∀ c ∈ k, c < 256) (hf : f < 65536) (ht : t < 65536) (ha : a < 2 ^ 64) (hb : b < 2 ^ 64) (hR : RoundsAt w) :
    Calls Tryd.prog 38 #[.agg (chV n k), .int .u16 (f : Nat), .int .u16 (t : Nat), .int .u64 (a : Nat), .int .u64 (b : Nat)] w fun e w' => e = .returned (.agg (vb (ses k f t a b))) ∧ Below w.heap.size w w' := by
  have zf := zero_key
  have zs1 : zKey.size = 32 := by rfl
  have zs2 : ¬ zKey = #[] := by intro h; have := congrArg Array.size h; rw [zs1] at this; cases this
  have csz := chV_size n k hk
  have hor := or_16 f t hf ht
  have wf0 : IntKind.u64.wrap (f : Int) = (f : Int) := by simp [IntKind.wrap, IntKind.signed, IntKind.bits]; omega
  have wt0 : IntKind.u64.wrap (t : Int) = (t : Int) := by simp [IntKind.wrap, IntKind.signed, IntKind.bits]; omega
  have wm0 : IntKind.u64.wrap ((f : Int) * 65536) = (f : Int) * 65536 := by simp [IntKind.wrap, IntKind.signed, IntKind.bits]; omega
  have wa0 : IntKind.u64.wrap ((f : Int) * 65536 + (t : Int)) = ((f * 65536 + t : Nat) : Int) := by simp [IntKind.wrap, IntKind.signed, IntKind.bits]; omega
  obtain ⟨N, hN⟩ : ∃ N, N = f * 65536 + t := ⟨_, rfl⟩
  have hN2 : N < 2 ^ 64 := by omega
  obtain ⟨D1, hD1⟩ : ∃ D1, D1 = drv k sesT N := ⟨_, rfl⟩
  obtain ⟨D2, hD2⟩ : ∃ D2, D2 = drv D1 froT a := ⟨_, rfl⟩
  obtain ⟨D3, hD3⟩ : ∃ D3, D3 = drv D2 tooT b := ⟨_, rfl⟩
  have HF := Lib.hid (show ses k f t a b = D3 by rw [hD3, hD2, hD1, hN]; rfl)
  have l1 : D1.length = 32 := by rw [hD1, drv_len]
  have l2 : D2.length = 32 := by rw [hD2, drv_len]
  have l3 : D3.length = 32 := by rw [hD3, drv_len]
  have t1 : ∀ c ∈ D1, c < 256 := by rw [hD1]; exact drv_lt _ _ _
  have t2 : ∀ c ∈ D2, c < 256 := by rw [hD2]; exact drv_lt _ _ _
  have HC1 := Lib.hid (fun W (h : RoundsAt W) => derive_c k sesT N W hk hkl sesT_lt (by decide) hN2 h)
  have HC2 := Lib.hid (fun W (h : RoundsAt W) => derive_c D1 froT a W l1 t1 froT_lt (by decide) ha h)
  have HC3 := Lib.hid (fun W (h : RoundsAt W) => derive_c D2 tooT b W l2 t2 tooT_lt (by decide) hb h)
  rw [← hD1] at HC1
  rw [← hD2] at HC2
  rw [← hD3] at HC3
  rw [← hN] at hor wa0
  have HL1 := Lib.hid l1
  have HL3 := Lib.hid l3
  have HIL := Lib.hid (show (Tryd.prog.info? 47).map (·.size) = some (byt k).length by rw [byt_len, hk]; kernel_rfl)
  have HID1 := Lib.hid (show (Tryd.prog.info? 47).map (·.size) = some (byt D1).length by rw [byt_len, l1]; kernel_rfl)
  have HS1 := Lib.hid (show (Tryd.prog.info? 47).map (·.size) = some (vb D1).size by rw [vb_size, l1]; kernel_rfl)
  have HS3 := Lib.hid (show (Tryd.prog.info? 47).map (·.size) = some (vb D3).size by rw [vb_size, l3]; kernel_rfl)
  have HRO := Lib.hid hR
  clear hkl hD1 hD2 hD3 l1 l2 l3 t1 t2 hN hR
  obtain ⟨Z, hZ⟩ : ∃ Z, Z = (w.alloc (Obj.cells (chV n k) 52)).alloc (Obj.cells zKey 47) := ⟨_, rfl⟩
  have B0 := Lib.hid (show Below w.heap.size w Z by rw [hZ]; exact ((Below.refl _ _).alloc (Nat.le_refl _) _).alloc (by simp) _)
  have A0 := Lib.hid (show Blk Z w.heap.size 52 (chV n k) by rw [hZ]; exact (Blk.new w _ _).alloc _)
  have E0 := Lib.hid (show Blk Z (w.heap.size + 1) 47 zKey by
    have h1 := Blk.new (w.alloc (Obj.cells (chV n k) 52)) 47 zKey
    rw [show (w.alloc (Obj.cells (chV n k) 52)).heap.size = w.heap.size + 1 by simp] at h1
    rw [hZ]; exact h1)
  have HR0 := Lib.hid (HRO.out.next B0.out)
  go_enter Tryd.func38, Tryd.ntmps38
  go_upto_region 1 with fail
  rw [← hZ]
  clear hZ
  go_upto_region 2 with (first
    | (refine wpList_loadG rfl 47 (.tmp 12) rfl w.heap.size 1 rfl (byt k) _ (by exact chR1 A0.out) Tryd.underlying47 rfl HIL.out ?_)
    | (go_at_call 30; (refine (HC1.out _ HR0.out).mono ?_); rintro e w1 ⟨rfl, hb⟩; have E1p := Lib.hid (E0.out.below hb E0.out.lt); have B1p := Lib.hid (B0.out.trans (hb.mono B0.out.size)); clear hb)
    | (refine wpList_store_rowTo rfl 47 (.tmp 11) (.tmp 20) rfl rfl w1.heap.size (vb D1) rfl rfl 47 zKey (by exact Blk.new _ _ _) HS1.out (by rw [vb_size, HL1.out]; rfl) (vb_one _) ?_; have hnc := new_row 47 w1 D1; obtain ⟨Y1, hY1⟩ : ∃ Y, Y = (w1.alloc (Obj.cells zKey 47)).setRow w1.heap.size (vb D1) := ⟨_, rfl⟩; rw [← hY1] at hnc; rw [← hY1]; have P1 := Lib.hid hnc.1; have E1 := Lib.hid (E1p.out.below hnc.2 E1p.out.lt); have B1 := Lib.hid (B1p.out.trans (hnc.2.mono B1p.out.size)); clear hnc hY1))
  have HR1 := Lib.hid (HRO.out.next B1.out)
  go_wp2_with (first
    | (refine wpList_loadG rfl 47 (.tmp 11) rfl w1.heap.size 0 rfl (byt D1) _ (by exact rangeAt_blk P1.out) Tryd.underlying47 rfl HID1.out ?_)
    | (go_at_call 30; (refine (HC2.out _ HR1.out).mono ?_); rintro e w2 ⟨rfl, hb⟩; have E2 := Lib.hid (E1.out.below hb E1.out.lt); have B2 := Lib.hid (B1.out.trans (hb.mono B1.out.size)); have HR2 := Lib.hid (HRO.out.next B2.out); clear hb HC2)
    | (go_at_call 30; (refine (HC3.out _ HR2.out).mono ?_); rintro e w3 ⟨rfl, hb⟩; have E3 := Lib.hid (E2.out.below hb E2.out.lt); have B3 := Lib.hid (B2.out.trans (hb.mono B2.out.size)); clear hb)
    | (refine wpList_store_rowTo rfl 47 (.tmp 10) (.tmp 25) rfl rfl (w.heap.size + 1) (vb D3) rfl rfl 47 zKey E3.out HS3.out (by rw [vb_size, HL3.out]; rfl) (vb_one _) ?_))
  first
    | rw [Exit.noGoto_ret]
    | skip
  refine bodyPost_ret (results_cell_row rfl _ _ (w.heap.size + 1) 47 (vb D3) (0, 0) _ rfl (setRow_heap _ _ zKey _ 47 (0, 0) E3.out) Tryd.underlying47 rfl HS3.out) rfl ?_
  exact ⟨by rw [HF.out], below_row B3.out (by omega) _⟩
set_option maxRecDepth 100000 in
set_option maxHeartbeats 8000000 in
theorem rsession_c (n : Nat) (k : List Nat) (f t a b : Nat) (w : World) (hk : k.length = 32) (hkl : ∀ c ∈ k, c < 256) (hf : f < 65536) (ht : t < 65536) (ha : a < 2 ^ 64) (hb : b < 2 ^ 64)  :
    Calls Tryd.prog 39 #[.agg (chV n k), .int .u16 (f : Nat), .int .u16 (t : Nat), .int .u64 (a : Nat), .int .u64 (b : Nat)] w fun e w' => e = .returned (.agg (vb (ses k f t a b))) ∧ Below w.heap.size w w' := by
  have zf := zero_k32
  have zs1 : zKey.size = 32 := by rfl
  have zs2 : ¬ zKey = #[] := by intro h; have := congrArg Array.size h; rw [zs1] at this; cases this
  have csz := chV_size n k hk
  have hor := or_16 f t hf ht
  have wf0 : IntKind.u64.wrap (f : Int) = (f : Int) := by simp [IntKind.wrap, IntKind.signed, IntKind.bits]; omega
  have wt0 : IntKind.u64.wrap (t : Int) = (t : Int) := by simp [IntKind.wrap, IntKind.signed, IntKind.bits]; omega
  have wm0 : IntKind.u64.wrap ((f : Int) * 65536) = (f : Int) * 65536 := by simp [IntKind.wrap, IntKind.signed, IntKind.bits]; omega
  have wa0 : IntKind.u64.wrap ((f : Int) * 65536 + (t : Int)) = ((f * 65536 + t : Nat) : Int) := by simp [IntKind.wrap, IntKind.signed, IntKind.bits]; omega
  obtain ⟨N, hN⟩ : ∃ N, N = f * 65536 + t := ⟨_, rfl⟩
  have hN2 : N < 2 ^ 64 := by omega
  obtain ⟨D1, hD1⟩ : ∃ D1, D1 = drv k sesT N := ⟨_, rfl⟩
  obtain ⟨D2, hD2⟩ : ∃ D2, D2 = drv D1 froT a := ⟨_, rfl⟩
  obtain ⟨D3, hD3⟩ : ∃ D3, D3 = drv D2 tooT b := ⟨_, rfl⟩
  have HF := Lib.hid (show ses k f t a b = D3 by rw [hD3, hD2, hD1, hN]; rfl)
  have l1 : D1.length = 32 := by rw [hD1, drv_len]
  have l2 : D2.length = 32 := by rw [hD2, drv_len]
  have l3 : D3.length = 32 := by rw [hD3, drv_len]
  have t1 : ∀ c ∈ D1, c < 256 := by rw [hD1]; exact drv_lt _ _ _
  have t2 : ∀ c ∈ D2, c < 256 := by rw [hD2]; exact drv_lt _ _ _
  have HC1 := Lib.hid (fun W => rderive_c k sesT N W hk hkl sesT_lt (by decide) hN2)
  have HC2 := Lib.hid (fun W => rderive_c D1 froT a W l1 t1 froT_lt (by decide) ha)
  have HC3 := Lib.hid (fun W => rderive_c D2 tooT b W l2 t2 tooT_lt (by decide) hb)
  rw [← hD1] at HC1
  rw [← hD2] at HC2
  rw [← hD3] at HC3
  rw [← hN] at hor wa0
  have HL1 := Lib.hid l1
  have HL3 := Lib.hid l3
  have HIL := Lib.hid (show (Tryd.prog.info? 47).map (·.size) = some (byt k).length by rw [byt_len, hk]; kernel_rfl)
  have HID1 := Lib.hid (show (Tryd.prog.info? 25).map (·.size) = some (byt D1).length by rw [byt_len, l1]; kernel_rfl)
  have HS1 := Lib.hid (show (Tryd.prog.info? 25).map (·.size) = some (vb D1).size by rw [vb_size, l1]; kernel_rfl)
  have HS3 := Lib.hid (show (Tryd.prog.info? 25).map (·.size) = some (vb D3).size by rw [vb_size, l3]; kernel_rfl)
  skip
  clear hkl hD1 hD2 hD3 l1 l2 l3 t1 t2 hN 
  obtain ⟨Z, hZ⟩ : ∃ Z, Z = (w.alloc (Obj.cells (chV n k) 52)).alloc (Obj.cells zKey 25) := ⟨_, rfl⟩
  have B0 := Lib.hid (show Below w.heap.size w Z by rw [hZ]; exact ((Below.refl _ _).alloc (Nat.le_refl _) _).alloc (by simp) _)
  have A0 := Lib.hid (show Blk Z w.heap.size 52 (chV n k) by rw [hZ]; exact (Blk.new w _ _).alloc _)
  have E0 := Lib.hid (show Blk Z (w.heap.size + 1) 25 zKey by
    have h1 := Blk.new (w.alloc (Obj.cells (chV n k) 52)) 25 zKey
    rw [show (w.alloc (Obj.cells (chV n k) 52)).heap.size = w.heap.size + 1 by simp] at h1
    rw [hZ]; exact h1)
  skip
  go_enter Tryd.func39, Tryd.ntmps39
  go_upto_region 1 with fail
  rw [← hZ]
  clear hZ
  go_upto_region 2 with (first
    | (refine wpList_loadG rfl 47 (.tmp 12) rfl w.heap.size 1 rfl (byt k) _ (by exact chR1 A0.out) Tryd.underlying47 rfl HIL.out ?_)
    | (go_at_call 31; (refine (HC1.out _).mono ?_); rintro e w1 ⟨rfl, hb⟩; have E1p := Lib.hid (E0.out.below hb E0.out.lt); have B1p := Lib.hid (B0.out.trans (hb.mono B0.out.size)); clear hb)
    | (refine wpList_store_rowTo rfl 25 (.tmp 11) (.tmp 20) rfl rfl w1.heap.size (vb D1) rfl rfl 25 zKey (by exact Blk.new _ _ _) HS1.out (by rw [vb_size, HL1.out]; rfl) (vb_one _) ?_; have hnc := new_row 25 w1 D1; obtain ⟨Y1, hY1⟩ : ∃ Y, Y = (w1.alloc (Obj.cells zKey 25)).setRow w1.heap.size (vb D1) := ⟨_, rfl⟩; rw [← hY1] at hnc; rw [← hY1]; have P1 := Lib.hid hnc.1; have E1 := Lib.hid (E1p.out.below hnc.2 E1p.out.lt); have B1 := Lib.hid (B1p.out.trans (hnc.2.mono B1p.out.size)); clear hnc hY1))
  skip
  go_wp2_with (first
    | (refine wpList_loadG rfl 25 (.tmp 11) rfl w1.heap.size 0 rfl (byt D1) _ (by exact rangeAt_blk P1.out) Tryd.underlying25 rfl HID1.out ?_)
    | (go_at_call 31; (refine (HC2.out _).mono ?_); rintro e w2 ⟨rfl, hb⟩; have E2 := Lib.hid (E1.out.below hb E1.out.lt); have B2 := Lib.hid (B1.out.trans (hb.mono B1.out.size));  clear hb HC2)
    | (go_at_call 31; (refine (HC3.out _).mono ?_); rintro e w3 ⟨rfl, hb⟩; have E3 := Lib.hid (E2.out.below hb E2.out.lt); have B3 := Lib.hid (B2.out.trans (hb.mono B2.out.size)); clear hb)
    | (refine wpList_store_rowTo rfl 25 (.tmp 10) (.tmp 25) rfl rfl (w.heap.size + 1) (vb D3) rfl rfl 25 zKey E3.out HS3.out (by rw [vb_size, HL3.out]; rfl) (vb_one _) ?_))
  first
    | rw [Exit.noGoto_ret]
    | skip
  refine bodyPost_ret (results_cell_row rfl _ _ (w.heap.size + 1) 25 (vb D3) (0, 0) _ rfl (setRow_heap _ _ zKey _ 25 (0, 0) E3.out) Tryd.underlying25 rfl HS3.out) rfl ?_
  exact ⟨by rw [HF.out], below_row B3.out (by omega) _⟩
end Go.Proofs.YthlmlmkabjppeaaDoor
