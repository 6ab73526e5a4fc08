/- ShamirSums: the walk. -/
import Derived.Test.YtldanlglefgobaaSsu1
namespace Go.Proofs.Ytldanlglefgobaa
open Go.RowKit
set_option linter.unusedVariables false
set_option maxRecDepth 100000 in
set_option maxHeartbeats 1000000 in
theorem sums_out (A B : Option Addr) (n m ca cb : Nat) (w : World) (h : n = 0 ∨ 8 < n ∨ m < n) :
    Calls Try.prog 10 #[.slice A n ca, .slice B m cb] w (Yes w) := by
  have hcase : n = 0 ∨ (n ≠ 0 ∧ 8 < n) ∨ (n ≠ 0 ∧ ¬ 8 < n ∧ m < n) := by omega
  clear h
  rcases hcase with rfl | ⟨h1, h2⟩ | ⟨h1, h2, h3⟩
  · go_enter Try.func10, Try.ntmps10
    go_wp2_with (go_at_call 23; ((with_reducible refine (awake08_c _).mono ?_); rintro e w2 ⟨rfl, hb⟩))
    go_ret
    exact ⟨rfl, hb⟩
  · have t1 : ((n : Int) == 0) = false := beq_eq_false_iff_ne.2 (by omega)
    go_enter Try.func10, Try.ntmps10
    go_wp2_with (go_at_call 23; ((with_reducible refine (awake08_c _).mono ?_); rintro e w2 ⟨rfl, hb⟩))
    go_ret
    exact ⟨rfl, hb⟩
  · have t1 : ((n : Int) == 0) = false := beq_eq_false_iff_ne.2 (by omega)
    go_enter Try.func10, Try.ntmps10
    go_wp2_with (go_at_call 23; ((with_reducible refine (awake08_c _).mono ?_); rintro e w2 ⟨rfl, hb⟩))
    go_ret
    exact ⟨rfl, hb⟩
theorem comR_lt (L : List Nat) (n q : Nat) : (comR L n).getD q 0 < 256 := by
  refine getD_lt ?_ q
  unfold comR
  split
  · simp
  · split
    · exact cmbTo_lt _ _ _ _
    · simp
section
variable {P : Program}
theorem wpList_build2 {ops : Array Oper} {rest : List Oper} {o : Oper} {a : Act} {w : World} {Q : Exit → Act → World → Prop} (hg : o.guard = none) (t : TypeId) (x y : Operand) (ho : o.op = .build t #[(0, x), (1, y)])
    (d : Option Tmp) (hd : o.dst = d) (u v : Value) (hx : a.eval x = u) (hy : a.eval y = v) (cells : Array Value) (hf : P.built t [(0, u), (1, v)] = some cells)
    (h : wpList P ops Q rest (a.put d (.agg cells)) w) : wpList P ops Q (o :: rest) a w :=
  wpList_buildTo hg t _ ho d hd cells (by simpa [hx, hy] using hf) h
end
theorem krow_AtA {w : World} {al : Addr} {L : List Nat} {n k : Nat} (h : AtA w al (byt L)) (hk : k < n) (hL : L.length = n * 32) : AtA w (al.add (k * 32)) (byt (krow L k)) := fun j u hu => by
  have hj : j < 32 := by
    rcases Nat.lt_or_ge j 32 with h1 | h1
    · exact h1
    · rw [List.getElem?_eq_none (by rw [byt_len, krow_len]; omega)] at hu; cases hu
  rw [Addr.add_add]
  have hP : k * 32 + j < L.length := by omega
  rw [h (k * 32 + j) _ (byt_at hP), ← hu, byt_at (by rw [krow_len]; exact hj), krow_at L k j hj]
set_option maxRecDepth 100000 in
set_option maxHeartbeats 4000000 in
theorem sums_ok (al bl : Addr) (n m ca cb : Nat) (L M : List Nat) (w : World) (h0 : 0 < n) (h8 : n ≤ 8) (hm : n ≤ m) (hca : n ≤ ca) (hcb : m ≤ cb) (hca2 : ca ≤ 9223372036854775807) (hcb2 : cb ≤ 9223372036854775807) (hL : L.length = n * 32) (hM : M.length = m * 32) (hl : ∀ c ∈ L, c < 256) (hml : ∀ c ∈ M, c < 256)
    (hba : al.block < w.heap.size) (hbb : bl.block < w.heap.size) (hA : AtA w al (byt L)) (hB : AtA w bl (byt M)) :
    Calls Try.prog 10 #[.slice (some al) n ca, .slice (some bl) m cb] w (Yes w) := by
  have t1 : ((n : Int) == 0) = false := beq_eq_false_iff_ne.2 (by omega)
  have t2 : decide (8 < (n : Int)) = false := decide_eq_false (by omega)
  have t3 : decide ((m : Int) < (n : Int)) = false := decide_eq_false (by omega)
  have t3n : decide (m < n) = false := decide_eq_false (by omega)
  obtain ⟨i0, hi0, hz0, hz1, hz2⟩ := info_parts shInfo
  have zs := zero_share
  have zs2 := zero_key
  have zn := z33_size
  have ze := z33_ne
  have HA := Lib.hid hA
  have HB := Lib.hid hB
  have HL := Lib.hid hl
  have HM := Lib.hid hml
  have H08 := Lib.hid (And.intro h0 h8)
  clear hA hB hl hml
  go_enter Try.func10, Try.ntmps10
  go_wp2_with fail
  go_loopw [5, 6, 7, 8] (fun a b c i wr => ∃ k : Nat, k ≤ n ∧ i = .int .i64 k ∧ Own3 wr w.heap.size a k (mkS (krow L) k) b k (mkS (krow M) k) c k (mkS (xrow L M) k) ∧ Below w.heap.size w wr) (fun _ _ _ i _ => n - (intOf i).toNat)
  case atStart => exact ⟨0, by omega, rfl, Own3.nil_ _ _, Below.refl _ _⟩
  case round =>
    rename World => wr
    obtain ⟨k, hk, rfl, ho3, hbel⟩ := hrel
    have HO := Lib.hid ho3
    have HBW := Lib.hid hbel
    clear ho3 hbel
    by_cases hlt : k < n
    · obtain ⟨X, hX⟩ : ∃ X, X = 7 * k + 1 := ⟨_, rfl⟩
      have eX : (7 : Int) * (k : Int) + 1 = (X : Int) := by omega
      have hX8 : X < 256 := by omega
      have HX := Lib.hid hX
      clear hX
      go_upto_region 9 with (first
        | (refine wpList_store_rowTo rfl 48 (.tmp 10) (.tmp 46) rfl rfl wr.heap.size (vb (X :: List.replicate 32 0)) rfl (congrArg Value.agg (z33_set X)) 48 z33 (by exact heap_alloc_new _ _) (by kernel_rfl) (by kernel_rfl) (vb_one _) ?_))
      obtain ⟨Z, hZ⟩ : ∃ Z, Z = (wr.alloc (.cells z33 48)).setRow wr.heap.size (vb (X :: List.replicate 32 0)) := ⟨_, rfl⟩
      have hbk : Blk Z wr.heap.size 48 (vb (X :: fTo (fun q => L.getD (k * 32 + q) 0 ^^^ M.getD (k * 32 + q) 0) 0)) := by rw [hZ, fTo_zero]; exact Blk.row (old := z33) (heap_alloc_new wr _)
      have hbz : Below wr.heap.size wr Z := by rw [hZ]; exact Below.setRow ((Below.refl _ _).alloc (Nat.le_refl _) _) (Nat.le_refl _) _
      rw [← hZ]
      have HBK := Lib.hid hbk
      have HBZ := Lib.hid hbz
      clear hbk hbz hZ
      have e38 : decide (k < n) = true := decide_eq_true hlt
      go_wp2_with fail
      go_loopw [11] (fun q wr2 => ∃ p : Nat, p ≤ 32 ∧ q = .int .i64 p ∧ Blk wr2 wr.heap.size 48 (vb (X :: fTo (fun q => L.getD (k * 32 + q) 0 ^^^ M.getD (k * 32 + q) 0) p)) ∧ Below wr.heap.size wr wr2) (fun q _ => 32 - (intOf q).toNat)
      case atStart => exact ⟨0, by omega, rfl, HBK.out, HBZ.out⟩
      case round =>
        rename World => wr2
        obtain ⟨p, hp, rfl, hbk, hb2⟩ := hrel
        have HK := Lib.hid hbk
        have HB2 := Lib.hid hb2
        clear hbk hb2
        by_cases hp32 : p < 32
        · obtain ⟨P, hP⟩ : ∃ P, P = k * 32 + p := ⟨_, rfl⟩
          have hPL : P < L.length := by omega
          have hPM : P < M.length := by omega
          have hbw2 : Below w.heap.size w wr2 := HBW.out.trans (HB2.out.mono HBW.out.size)
          have d1 : wr2.cell? (al.add P) = some (.int .u8 (L.getD P 0 : Nat)) := (HA.out.below hbw2 hba) P _ (byt_at hPL)
          have d2 : wr2.cell? (bl.add P) = some (.int .u8 (M.getD P 0 : Nat)) := (HB.out.below hbw2 hbb) P _ (byt_at hPM)
          have d1b : wr2.cell? ((al.add (k * 32)).add p) = some (.int .u8 (L.getD P 0 : Nat)) := by rw [Addr.add_add, ← hP]; exact d1
          have d2b : wr2.cell? ((bl.add (k * 32)).add p) = some (.int .u8 (M.getD P 0 : Nat)) := by rw [Addr.add_add, ← hP]; exact d2
          have d5 : wr2.cell? ⟨wr.heap.size, 1 + p, none⟩ = some (.int .u8 ((X :: fTo (fun q => L.getD (k * 32 + q) 0 ^^^ M.getD (k * 32 + q) 0) p).getD (1 + p) 0 : Nat)) := (HK.out.cell (1 + p)).trans (vb_at _ _ (by simp [fTo_len]; omega))
          have f5 : wr2.frozen? ⟨wr.heap.size, 1 + p, none⟩ = false := HK.out.free (1 + p)
          have HST := Lib.hid (fTo_set (fun q => L.getD (k * 32 + q) 0 ^^^ M.getD (k * 32 + q) 0) p)
          have hlp := getD_lt HL.out P
          have hmp := getD_lt HM.out P
          have hxc : bits BinOp.xor .u8 (L.getD P 0 : Nat) (M.getD P 0 : Nat) = ((L.getD P 0 ^^^ M.getD P 0 : Nat) : Int) := u8_xor_nat _ _ hlp hmp
          have hxl := xor_lt256 hlp hmp
          have HVP := Lib.hid (show (fun q => L.getD (k * 32 + q) 0 ^^^ M.getD (k * 32 + q) 0) p = L.getD P 0 ^^^ M.getD P 0 by rw [hP])
          have hP3 : k * 32 + p = P := hP.symm
          have hii : (k : Int) < (n : Int) := by omega
          have him : (k : Int) < (m : Int) := by omega
          clear hP hbw2 hPL hPM
          generalize L.getD P 0 = lp at *
          generalize M.getD P 0 = mp at *
          generalize lp ^^^ mp = V at *
          go_wp2_with fail
          refine wp_region_still_tail 16 (by kernel_rfl) (by kernel_rfl) ?_
          simp only [List.take_succ_cons, List.take_zero, List.drop_succ_cons, List.drop_zero]
          repeat still_step
          try refine wpStill_nil ?_
          change wpList _ _ _ _ _ wr2.drew
          go_wp2_with fail
          go_roundw
          case rel =>
            go_light
            refine ⟨p + 1, by omega, by go_num, ?_, ((HB2.out.setCell (by exact Nat.le_refl _) _).drew : Below wr.heap.size wr (wr2.setCell ⟨wr.heap.size, 1 + p, none⟩ (.int .u8 (V : Int))).drew)⟩
            have h := HK.out.set_ (1 + p) (.int .u8 (V : Int))
            rw [vb_set, Nat.add_comm 1 p, List.set_cons_succ, ← HVP.out, HST.out] at h
            rw [Nat.add_comm 1 p, ← HVP.out]
            exact h
          case measure => simp [intOf]; omega
        · have hp2 : p = 32 := by omega
          have hk := HK.out
          rw [hp2] at hk
          have HK2 := Lib.hid (show Blk wr2 wr.heap.size 48 (vb (X :: xrow L M k)) from hk)
          have HO2 := Lib.hid (HO.out.keep HB2.out)
          have hbw2 := HBW.out.trans (HB2.out.mono HBW.out.size)
          have HBW2 := Lib.hid hbw2
          have HG : Hid (∀ v : Value, (∀ g, v.ownBlock = some g → g < wr.heap.size) → ∀ g, v.ownBlock = some g → ¬ wr.heap.size = g) := Lib.hid (fun v h g hg h2 => by have := h g hg; omega)
          have HGb := Lib.hid (HG.out _ (own_lt HO.out.ob))
          have HGa := Lib.hid (HG.out _ (own_lt HO.out.oa))
          have HRA := Lib.hid (krow_AtA (HA.out.below hbw2 hba) hlt hL)
          have HKA := Lib.hid (key_bytes (krow L k) (krow_len L k))
          have HKB := Lib.hid (key_bytes (krow M k) (krow_len M k))
          have hs1 : (vb (X :: krow L k)).size = 33 := by rw [vb_size, List.length_cons, krow_len]
          have hs2 : (vb (X :: krow M k)).size = 33 := by rw [vb_size, List.length_cons, krow_len]
          have hs3 : (vb (X :: xrow L M k)).size = 33 := by rw [vb_size, List.length_cons]; unfold xrow; rw [fTo_len]
          have HS1 := Lib.hid hs1
          have HS2 := Lib.hid hs2
          have HS3 := Lib.hid hs3
          have HS3b := Lib.hid (share_size (X :: xrow L M k) (by rw [List.length_cons]; unfold xrow; rw [fTo_len]))
          have HBU1 := Lib.hid (built_share2 X (krow L k) (krow_len L k))
          have HBU2 := Lib.hid (built_share2 X (krow M k) (krow_len M k))
          have HM1 := Lib.hid (show mkS (krow L) (k + 1) = mkS (krow L) k ++ (X :: krow L k) by rw [HX.out]; exact mkS_succ _ _)
          have HM2 := Lib.hid (show mkS (krow M) (k + 1) = mkS (krow M) k ++ (X :: krow M k) by rw [HX.out]; exact mkS_succ _ _)
          have HM3 := Lib.hid (show mkS (xrow L M) (k + 1) = mkS (xrow L M) k ++ (X :: xrow L M k) by rw [HX.out]; exact mkS_succ _ _)
          have hln : ∀ f : Nat → List Nat, (∀ i, (f i).length = 32) → (byt (X :: f k)).length = 1 * 33 := fun f hf => by rw [byt_len, List.length_cons, hf]
          have HL1 := Lib.hid (hln (krow L) (krow_len L))
          have HL2 := Lib.hid (hln (krow M) (krow_len M))
          have HL3 := Lib.hid (hln (xrow L M) (fun i => fTo_len _ _))
          clear hk HK hs1 hs2 hs3 hln
          go_upto_region 14 with (first
            | (refine wpList_load_at rfl 43 (.tmp 71) rfl (al.add (k * 32)) rfl (krow L k) _ HRA.out Try.underlying43 rfl HKA.out ?_)
            | (refine wpList_build2 rfl 48 (.tmp 68) (.tmp 72) rfl _ rfl (.int .u8 (X : Int)) (.agg (vb (krow L k))) rfl rfl (vb (X :: krow L k)) HBU1.out ?_)
            | (refine wpList_buildOne rfl 44 48 (.tmp 73) rfl (vb (X :: krow L k)) rfl i0 (.agg z33) 33 Try.underlying44 hi0 hz0 hz1 HS1.out (by decide) (by decide) ?_)
            | (at_builtin; refine wpList_app _ rfl (.tmp 67) (.tmp 74) _ rfl w.heap.size 48 i0 (.agg z33) 33 33 Try.underlying44 hi0 hz0 hz1 hz2 rfl (by decide) _ _ _ rfl (own_alloc HO2.out.oa _) _ _ 1 1 (byt (X :: krow L k)) rfl HL1.out (by exact rd_new _ _ _ _) (byt_one _) (by omega) (by omega) (by exact Nat.le_trans HBW2.out.size (by simp)) ?_; go_loud (intro v1 w3 hap; have hob := own_alloc HO2.out.oa (.cells (vb (X :: krow L k)) 48); have HO3 := Lib.hid (HM1.out ▸ (HO2.out.alloc (.cells (vb (X :: krow L k)) 48)).app hap); have hb3 : Below w.heap.size w w3 := (HBW2.out.alloc HBW2.out.size _).trans (hap.below hob (by exact Nat.le_trans HBW2.out.size (by simp))); have HB3 := Lib.hid hb3; have HK3 := Lib.hid ((HK2.out.alloc (.cells (vb (X :: krow L k)) 48)).keep (hap.only (S := fun g => _ = some g) (fun g h => h)) (fun h => HGa.out _ h rfl)); have HRB := Lib.hid (krow_AtA (HB.out.below hb3 hbb) (Nat.lt_of_lt_of_le hlt hm) hM); clear hap hob hb3)))
          go_upto_region 15 with (first
            | (refine wpList_load_at rfl 43 (.tmp 80) rfl (bl.add (k * 32)) rfl (krow M k) _ HRB.out Try.underlying43 rfl HKB.out ?_)
            | (refine wpList_build2 rfl 48 (.tmp 77) (.tmp 81) rfl _ rfl (.int .u8 (X : Int)) (.agg (vb (krow M k))) rfl rfl (vb (X :: krow M k)) HBU2.out ?_)
            | (refine wpList_buildOne rfl 44 48 (.tmp 82) rfl (vb (X :: krow M k)) rfl i0 (.agg z33) 33 Try.underlying44 hi0 hz0 hz1 HS2.out (by decide) (by decide) ?_)
            | (at_builtin; refine wpList_app _ rfl (.tmp 76) (.tmp 83) _ rfl w.heap.size 48 i0 (.agg z33) 33 33 Try.underlying44 hi0 hz0 hz1 hz2 rfl (by decide) _ _ _ rfl (own_alloc HO3.out.ob _) _ _ 1 1 (byt (X :: krow M k)) rfl HL2.out (by exact rd_new _ _ _ _) (byt_one _) (by omega) (by omega) (by exact Nat.le_trans HB3.out.size (by simp)) ?_; intro v2 w4 hap; have hob := own_alloc HO3.out.ob (.cells (vb (X :: krow M k)) 48); have HO4 := Lib.hid (HM2.out ▸ (HO3.out.rot.alloc (.cells (vb (X :: krow M k)) 48)).app hap); have hb4 : Below w.heap.size w w4 := (HB3.out.alloc HB3.out.size _).trans (hap.below hob (by exact Nat.le_trans HB3.out.size (by simp))); have HB4 := Lib.hid hb4; have HK4 := Lib.hid ((HK3.out.alloc (.cells (vb (X :: krow M k)) 48)).keep (hap.only (S := fun g => _ = some g) (fun g h => h)) (fun h => HGb.out _ h rfl)); clear hap hob hb4))
          go_wp2_with (first
            | (refine wpList_load_row rfl 48 (.tmp 10) rfl wr.heap.size rfl 48 (vb (X :: xrow L M k)) (0, 0) _ HK4.out Try.underlying48 rfl HS3b.out ?_)
            | (refine wpList_buildOne rfl 44 48 (.tmp 86) rfl (vb (X :: xrow L M k)) rfl i0 (.agg z33) 33 Try.underlying44 hi0 hz0 hz1 HS3.out (by decide) (by decide) ?_)
            | (at_builtin; refine wpList_app _ rfl (.tmp 85) (.tmp 87) _ rfl w.heap.size 48 i0 (.agg z33) 33 33 Try.underlying44 hi0 hz0 hz1 hz2 rfl (by decide) _ _ _ rfl (own_alloc HO4.out.ob _) _ _ 1 1 (byt (X :: xrow L M k)) rfl HL3.out (by exact rd_new _ _ _ _) (byt_one _) (by omega) (by omega) (by exact Nat.le_trans HB4.out.size (by simp)) ?_; intro v3 w5 hap; have hob := own_alloc HO4.out.ob (.cells (vb (X :: xrow L M k)) 48); have HO5 := Lib.hid (HM3.out ▸ (HO4.out.rot.alloc (.cells (vb (X :: xrow L M k)) 48)).app hap); have hb5 : Below w.heap.size w w5 := (HB4.out.alloc HB4.out.size _).trans (hap.below hob (by exact Nat.le_trans HB4.out.size (by simp))); have HB5 := Lib.hid hb5; clear hap hob hb5))
          go_roundw
          case rel =>
            go_light
            exact ⟨k + 1, by omega, by go_num, HO5.out.rot, HB5.out⟩
          case measure => simp [intOf]; omega
    · have hkn : k = n := by omega
      have ho := HO.out
      rw [hkn] at ho
      have HO2 := Lib.hid ho
      have HBW2 := Lib.hid HBW.out
      clear ho hkn
      obtain ⟨Aa, ca1, rfl, hq1, hq2, hra⟩ := HO2.out.oa.rds
      obtain ⟨Ab, cb1, rfl, hq3, hq4, hrb⟩ := HO2.out.ob.rds
      obtain ⟨Ac, cc1, rfl, hq5, hq6, hrc⟩ := HO2.out.oc.rds
      unfold maxLen at hq2 hq4 hq6
      have hn0 := H08.out.1
      have hn8 := H08.out.2
      have hlen3 : ∀ i, (xrow L M i).length = 32 := fun i => fTo_len _ _
      have hlt3 : ∀ i, ∀ c ∈ xrow L M i, c < 256 := fun i => fTo_lt (fun q => xor_lt256 (getD_lt HL.out _) (getD_lt HM.out _)) 32
      have call : ∀ (f : Nat → List Nat) (hf : ∀ i, (f i).length = 32) (hs : ∀ i, ∀ c ∈ f i, c < 256) (A : Option Addr) (cp : Nat) (h1 : n ≤ cp) (h2 : cp ≤ 9223372036854775807) (hr : RdS wr wr.heap.size A n (mkS f n)) (W : World) (hb : Below wr.heap.size wr W),
          Calls Try.prog 26 #[.slice A n cp] W fun e w' => e = .returned (.tuple #[.agg (vb (comR (mkS f n) n)), .int .i64 0]) ∧ Below W.heap.size W w' := by
        intro f hf hs A cp h1 h2 hr W hb
        have h := combine_c n cp A (mkS f n) W (by omega) h1 h2 (mkS_lt hs hn8) ⟨hr.1, (hr.2.below hb).more hb.size⟩
        rw [comE_mkS hf n hn0] at h
        exact h
      have HCa := Lib.hid (call (krow L) (krow_len L) (krow_lt HL.out) Aa ca1 hq1 (by omega) hra)
      have HCb := Lib.hid (call (krow M) (krow_len M) (krow_lt HM.out) Ab cb1 hq3 (by omega) hrb)
      have HCc := Lib.hid (call (xrow L M) hlen3 hlt3 Ac cc1 hq5 (by omega) hrc)
      have hxr := comR_xor L M n hn0
      have lA := comR_len (mkS (krow L) n) n
      have lB := comR_len (mkS (krow M) n) n
      have lC := comR_len (mkS (xrow L M) n) n
      have ltA : ∀ q, (comR (mkS (krow L) n) n).getD q 0 < 256 := comR_lt _ _
      have ltB : ∀ q, (comR (mkS (krow M) n) n).getD q 0 < 256 := comR_lt _ _
      generalize comR (mkS (krow L) n) n = RA at *
      generalize comR (mkS (krow M) n) n = RB at *
      generalize comR (mkS (xrow L M) n) n = RC at *
      have HXR := Lib.hid hxr
      have HLT := Lib.hid (And.intro ltA ltB)
      have HLN := Lib.hid (And.intro lA (And.intro lB lC))
      have HSA := Lib.hid (key_size RA lA)
      have HSB := Lib.hid (key_size RB lB)
      have HSC := Lib.hid (key_size RC lC)
      have HZA := Lib.hid (key_z32 RA lA)
      have HZB := Lib.hid (key_z32 RB lB)
      have HZC := Lib.hid (key_z32 RC lC)
      have hz32 := z32_size
      have hz32n := z32_ne
      clear call hra hrb hrc hq1 hq2 hq3 hq4 hq5 hq6 hn0 hn8 hlen3 hlt3 hxr lA lB lC ltA ltB HO HO2
      go_upto_region 17 with (first
        | (go_at_call 26; ((with_reducible refine (HCa.out _ (by exact Below.refl _ _)).mono ?_); rintro e y1 ⟨rfl, hy1⟩; have HY1 := Lib.hid hy1; clear hy1))
        | (refine wpList_store_rowTo rfl 43 (.tmp 12) (.tmp 92) rfl rfl y1.heap.size (vb RA) rfl rfl 43 z32 (by exact heap_alloc_new _ _) HSA.out HZA.out (vb_one _) ?_))
      obtain ⟨Z1, hZ1⟩ : ∃ Z, Z = (y1.alloc (.cells z32 43)).setRow y1.heap.size (vb RA) := ⟨_, rfl⟩
      have K1 := Lib.hid (show Blk Z1 y1.heap.size 43 (vb RA) by rw [hZ1]; exact Blk.row (old := z32) (heap_alloc_new y1 _))
      have B1 := Lib.hid (show Below wr.heap.size wr Z1 by rw [hZ1]; exact Below.setRow (HY1.out.alloc HY1.out.size _) HY1.out.size _)
      rw [← hZ1]
      clear hZ1 HY1
      go_upto_region 18 with (first
        | (go_at_call 26; ((with_reducible refine (HCb.out _ B1.out).mono ?_); rintro e y2 ⟨rfl, hy2⟩; have HY2 := Lib.hid (B1.out.trans (hy2.mono B1.out.size)); have K12 := Lib.hid (K1.out.below hy2 K1.out.lt); clear hy2))
        | (refine wpList_store_rowTo rfl 43 (.tmp 14) (.tmp 97) rfl rfl y2.heap.size (vb RB) rfl rfl 43 z32 (by exact heap_alloc_new _ _) HSB.out HZB.out (vb_one _) ?_))
      obtain ⟨Z2, hZ2⟩ : ∃ Z, Z = (y2.alloc (.cells z32 43)).setRow y2.heap.size (vb RB) := ⟨_, rfl⟩
      have hne12 : y1.heap.size < y2.heap.size := K12.out.lt
      have K13 := Lib.hid (show Blk Z2 y1.heap.size 43 (vb RA) by rw [hZ2]; exact Blk.rowFar (K12.out.alloc _) (by omega))
      have K2 := Lib.hid (show Blk Z2 y2.heap.size 43 (vb RB) by rw [hZ2]; exact Blk.row (old := z32) (heap_alloc_new y2 _))
      have B2 := Lib.hid (show Below wr.heap.size wr Z2 by rw [hZ2]; exact Below.setRow (HY2.out.alloc HY2.out.size _) HY2.out.size _)
      rw [← hZ2]
      clear hZ2 HY2 K1 K12 B1
      go_upto_region 19 with (first
        | (go_at_call 26; ((with_reducible refine (HCc.out _ B2.out).mono ?_); rintro e y3 ⟨rfl, hy3⟩; have HY3 := Lib.hid (B2.out.trans (hy3.mono B2.out.size)); have K14 := Lib.hid (K13.out.below hy3 K13.out.lt); have K22 := Lib.hid (K2.out.below hy3 K2.out.lt); clear hy3))
        | (refine wpList_store_rowTo rfl 43 (.tmp 16) (.tmp 102) rfl rfl y3.heap.size (vb RC) rfl rfl 43 z32 (by exact heap_alloc_new _ _) HSC.out HZC.out (vb_one _) ?_))
      obtain ⟨Z3, hZ3⟩ : ∃ Z, Z = (y3.alloc (.cells z32 43)).setRow y3.heap.size (vb RC) := ⟨_, rfl⟩
      have hne3 : y1.heap.size < y3.heap.size := K14.out.lt
      have hne4 : y2.heap.size < y3.heap.size := K22.out.lt
      have K15 := Lib.hid (show Blk Z3 y1.heap.size 43 (vb RA) by rw [hZ3]; exact Blk.rowFar (K14.out.alloc _) (by omega))
      have K23 := Lib.hid (show Blk Z3 y2.heap.size 43 (vb RB) by rw [hZ3]; exact Blk.rowFar (K22.out.alloc _) (by omega))
      have K3 := Lib.hid (show Blk Z3 y3.heap.size 43 (vb RC) by rw [hZ3]; exact Blk.row (old := z32) (heap_alloc_new y3 _))
      have B3 := Lib.hid (show Below w.heap.size w Z3 by rw [hZ3]; exact HBW2.out.trans ((Below.setRow (HY3.out.alloc HY3.out.size _) HY3.out.size _ : Below wr.heap.size wr _).mono HBW2.out.size))
      rw [← hZ3]
      clear hZ3 HY3 K13 K2 K14 K22 B2 hne12 hne3 hne4 HCa HCb HCc
      generalize y1.heap.size = G1 at *
      generalize y2.heap.size = G2 at *
      generalize y3.heap.size = G3 at *
      go_wp2_with fail
      go_loopw [18] (fun i wz => ∃ q z : Nat, q ≤ 32 ∧ i = .int .i64 q ∧ wz = Z3.drewN z) (fun i _ => 32 - (intOf i).toNat)
      case atStart => exact ⟨0, 0, by omega, rfl, rfl⟩
      case round =>
        obtain ⟨q, z, hq, rfl, rfl⟩ := hrel
        by_cases hq32 : q < 32
        · have d1 : Z3.cell? ⟨G1, q, none⟩ = some (.int .u8 (RA.getD q 0 : Nat)) := (K15.out.cell q).trans (vb_at _ q (by rw [HLN.out.1]; exact hq32))
          have d2 : Z3.cell? ⟨G2, q, none⟩ = some (.int .u8 (RB.getD q 0 : Nat)) := (K23.out.cell q).trans (vb_at _ q (by rw [HLN.out.2.1]; exact hq32))
          have d3 : Z3.cell? ⟨G3, q, none⟩ = some (.int .u8 (RC.getD q 0 : Nat)) := (K3.out.cell q).trans (vb_at _ q (by rw [HLN.out.2.2]; exact hq32))
          have hxr := HXR.out q hq32
          have hla := HLT.out.1 q
          have hlb := HLT.out.2 q
          have hxc : bits BinOp.xor .u8 (RA.getD q 0 : Nat) (RB.getD q 0 : Nat) = ((RA.getD q 0 ^^^ RB.getD q 0 : Nat) : Int) := u8_xor_nat _ _ hla hlb
          rw [← hxr] at hxc
          have hlc : RC.getD q 0 < 256 := by rw [hxr]; exact xor_lt256 hla hlb
          clear hxr
          generalize RA.getD q 0 = ra at *
          generalize RB.getD q 0 = rb at *
          generalize RC.getD q 0 = rc at *
          go_wp2_with fail
          refine wp_region_class (fun z => Z3.drewN z) (by kernel_rfl) (by kernel_rfl) ⟨z + 1, rfl⟩ ?_
          repeat (go_big_quiet_step (fail))
          refine wpQuiet_nil ?_
          rintro _ ⟨z2, rfl⟩
          go_wp2_with fail
          go_roundw
          case rel =>
            go_light
            exact ⟨q + 1, z2, by omega, by go_num, rfl⟩
          case measure => simp [intOf]; omega
        · have hqe : q = 32 := by omega
          clear hqe
          go_wp2_with (go_at_call 23; ((with_reducible refine (awake08_c _).mono ?_); rintro e y4 ⟨rfl, hb4⟩))
          go_ret
          exact ⟨rfl, (belowDrewN z B3.out).trans (hb4.mono (belowDrewN z B3.out).size)⟩
end Go.Proofs.Ytldanlglefgobaa
