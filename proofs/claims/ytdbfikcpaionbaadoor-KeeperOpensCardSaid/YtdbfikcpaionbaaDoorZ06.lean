/- Parts, one behind the other: MacM Kp1 Kq0 Kq1 Kq2 Kq3. -/
import Derived.Test.YtdbfikcpaionbaaDoorZ05
import Derived.Laws.CopyRow
import Derived.StillTailTactics
import Derived.Lib.SlBytesConst
import Derived.Laws.Cover3
/- Merged: Mac1 Mac2 Mac3 Aw03 Hm1. -/
namespace Go.Proofs.YtdbfikcpaionbaaDoor
open Go.RowKit
set_option linter.unusedVariables false
set_option linter.unusedSimpArgs false
def zk64 : Array Value := vb (List.replicate 64 0)
theorem zero_k64 (w : World) : (zeroValue 67).run Tryd.prog w = .ok (.agg zk64) w := by kernel_rfl
theorem info_k64 : (Tryd.prog.info? 67).map (·.size) = some 64 := by kernel_rfl
theorem u8_xor_nat (x c : Nat) (hx : x < 256) (hc : c < 256) : Go.bits BinOp.xor IntKind.u8 (x : Int) (c : Int) = ((x ^^^ c : Nat) : Int) := by
  show IntKind.wrap IntKind.u8 ((BitVec.ofInt 8 (x : Int) ^^^ BitVec.ofInt 8 (c : Int)).toNat : Int) = _
  rw [BitVec.ofInt_natCast, BitVec.ofInt_natCast, BitVec.toNat_xor, BitVec.toNat_ofNat, BitVec.toNat_ofNat, Nat.mod_eq_of_lt hx, Nat.mod_eq_of_lt hc, IntKind.wrap_u8]
  have : x ^^^ c < 2 ^ 8 := Nat.xor_lt_two_pow hx hc
  omega
/-- bytes turned as far as they are -/
def xrTo (b : Nat) (L : List Nat) (k : Nat) : List Nat := xr b (L.take k) ++ L.drop k
theorem xrTo_zero (b : Nat) (L : List Nat) : xrTo b L 0 = L := by simp [xrTo, xr]
theorem xrTo_end (b : Nat) (L : List Nat) (n : Nat) (h : L.length = n) : xrTo b L n = xr b L := by subst h; simp [xrTo]
theorem xr_len (b : Nat) (L : List Nat) : (xr b L).length = L.length := by simp [xr]
theorem xrTo_len (b : Nat) (L : List Nat) (k : Nat) (h : k ≤ L.length) : (xrTo b L k).length = L.length := by simp [xrTo, xr_len]; omega
theorem xrTo_at (b : Nat) (L : List Nat) (k : Nat) (h : k < L.length) : (xrTo b L k).getD k 0 = L.getD k 0 := by
  have h1 : (xr b (L.take k)).length = k := by rw [xr_len, List.length_take]; omega
  rw [xrTo, List.getD_eq_getElem?_getD, List.getD_eq_getElem?_getD, List.getElem?_append_right (by omega), h1, Nat.sub_self, List.getElem?_drop, Nat.add_zero]
theorem xrTo_set (b : Nat) (L : List Nat) (k : Nat) (h : k < L.length) : (xrTo b L k).set k (L.getD k 0 ^^^ b) = xrTo b L (k + 1) := by
  have h1 : (xr b (L.take k)).length = k := by rw [xr_len, List.length_take]; omega
  have h2 : L.drop k = L.getD k 0 :: L.drop (k + 1) := by
    rw [List.drop_eq_getElem_cons h, List.getD_eq_getElem?_getD, List.getElem?_eq_getElem h]; rfl
  have h3 : xr b (L.take (k + 1)) = xr b (L.take k) ++ [L.getD k 0 ^^^ b] := by
    unfold xr
    rw [List.take_add_one, List.getElem?_eq_getElem h, List.map_append, List.getD_eq_getElem?_getD, List.getElem?_eq_getElem h]
    rfl
  rw [xrTo, List.set_append_right _ _ (by omega), h1, Nat.sub_self, h2, List.set_cons_zero, xrTo, h3, List.append_assoc]
  rfl
theorem xr_lt {b : Nat} (hb : b < 256) {L : List Nat} (h : ∀ c ∈ L, c < 256) : ∀ c ∈ xr b L, c < 256 := by
  intro c hc
  obtain ⟨d, hd, rfl⟩ := List.mem_map.1 hc
  have : d ^^^ b < 2 ^ 8 := Nat.xor_lt_two_pow (h d hd) hb
  omega
theorem fill64_lt {k : List Nat} (h : ∀ c ∈ k, c < 256) : ∀ c ∈ fill64 k, c < 256 := by
  intro c hc
  rcases List.mem_append.1 hc with hc | hc
  · exact h c hc
  · rw [List.eq_of_mem_replicate hc]; decide
/-- bytes copied to the front of 64 zeros -/
theorem copy64 (w : World) (g : Nat) (A : Option Addr) (ca : Nat) (B : Nat) (k : List Nat) (hb : Blk w g 67 zk64) (hr : Rd w B A (byt k)) (hk : k.length ≤ 64) :
    ∃ w', (Builtin.copy_ #[24, 24] 3 #[.slice (some ⟨g, 0, none⟩) 64 64, .slice A k.length ca]).run Tryd.prog w = .ok (.int .i64 (k.length : Int)) w' ∧ Blk w' g 67 (vb (fill64 k)) ∧ (∀ n, n ≤ g → Below n w w') ∧ ∀ h T cs, h ≠ g → Blk w h T cs → Blk w' h T cs := by
  obtain ⟨i0, hi, hz0, hz1, hz2⟩ := info_parts byteInfo
  have hfill : (zk64.toList.take 0 ++ byt k ++ zk64.toList.drop (0 + (byt k).length)).toArray = vb (fill64 k) := by
    show (List.take 0 (byt (List.replicate 64 0)) ++ byt k ++ (byt (List.replicate 64 0)).drop (0 + (byt k).length)).toArray = (byt (fill64 k)).toArray
    rw [byt_len]
    congr 1
    rw [List.take_zero, List.nil_append, Nat.zero_add]
    unfold fill64 byt
    rw [List.map_append, List.map_replicate, List.map_replicate, List.drop_replicate]
  have hset : ∀ cs, Blk (w.setRow g cs) g 67 cs ∧ (∀ n, n ≤ g → Below n w (w.setRow g cs)) ∧ ∀ h T ds, h ≠ g → Blk w h T ds → Blk (w.setRow g cs) h T ds := fun cs =>
    ⟨setRow_heap _ _ _ _ _ (0, 0) hb, fun n hn => ⟨rfl, rfl, rfl, by simp [World.setRow], fun i hi => setRow_other _ _ i _ (by omega)⟩, fun h T ds hne hh => (setRow_other _ _ h _ hne).trans hh⟩
  by_cases hne : k = []
  · subst hne
    cases A with
    | none =>
      refine ⟨w, ?_, ?_, fun n hn => Below.refl _ _, fun _ _ _ _ h => h⟩
      · have h1 := run_copy_nil (P := Tryd.prog) w 24 24 3 5 ⟨g, 0, none⟩ 64 64 Tryd.underlying24 (by rw [hi]; rfl)
        refine Eq.trans ?_ h1
        simp [Builtin.copy_, run_underlying Tryd.underlying24, Builtin.lenOf, Builtin.firstCells]
      · exact hb
    | some a =>
      have h1 := run_copy_row (P := Tryd.prog) w 24 24 3 5 g 0 64 64 a 0 ca zk64 67 [] Tryd.underlying24 (by rw [hi]; simp [hz1]) hb rfl (fun j v h => by cases h) (by simp) (fun v h => by cases h)
      exact ⟨_, h1, by have := (hset (zk64.toList.take 0 ++ [] ++ zk64.toList.drop (0 + 0)).toArray).1; rw [← hfill]; exact this, (hset _).2⟩
  · obtain ⟨a, rfl, hab, hc⟩ := hr (by intro h0; have := congrArg List.length h0; rw [byt_len] at this; exact hne (List.eq_nil_of_length_eq_zero this))
    have h1 := run_copy_row (P := Tryd.prog) w 24 24 3 5 g 0 64 64 a k.length ca zk64 67 (byt k) Tryd.underlying24 (by rw [hi]; simp [hz1]) hb (by rw [byt_len]; exact (Nat.min_eq_left hk).symm) hc (by rw [byt_len]; show 0 + k.length ≤ 64; omega) (byt_one k)
    rw [hfill, byt_len] at h1
    exact ⟨_, h1, (hset _).1, (hset _).2⟩
structure MacS (w W : World) (g5 g6 : Nat) (L : List Nat) (k : Nat) : Prop where
  bel : Below w.heap.size w W
  h5 : Blk W g5 67 (vb (xrTo 54 L k))
  h6 : Blk W g6 67 (vb (xrTo 92 L k))
end Go.Proofs.YtdbfikcpaionbaaDoor
namespace Go.Proofs.YtdbfikcpaionbaaDoor
open Go.RowKit
set_option linter.unusedVariables false
set_option linter.unusedSimpArgs false
set_option maxRecDepth 100000 in
set_option maxHeartbeats 8000000 in
theorem macL_c (B C : Nat) (A D : Option Addr) (ca cb : Nat) (k m : List Nat) (w : World) (hk : Rd w B A (byt k)) (hm : Rd w C D (byt m)) (hB : B ≤ w.heap.size) (hC : C ≤ w.heap.size) (hkl : ∀ c ∈ k, c < 256) (hml : ∀ c ∈ m, c < 256) (hkn : k.length ≤ 8000) (hmn : m.length ≤ 8000) (hR : RoundsAt w) (hlong : 64 < k.length) :
    Calls Tryd.prog 25 #[.slice A k.length ca, .slice D m.length cb] w fun e w' => e = .returned (.agg (vb (mac k m))) ∧ Below w.heap.size w w' := by
  have HK := Lib.hid hk
  have HM := Lib.hid hm
  have HKL := Lib.hid hkl
  have HML := Lib.hid hml
  have HRO := Lib.hid hR
  have HMN := Lib.hid hmn
  clear hk hm hkl hml hR hmn
  have zf := zero_sum
  have zs1 : zSum.size = 32 := by rfl
  have zs2 : ¬ zSum = #[] := by intro h; have := congrArg Array.size h; rw [zs1] at this; cases this
  have zf6 := zero_k64
  have zs3 : zk64.size = 64 := by rfl
  have zs4 : ¬ zk64 = #[] := by intro h; have := congrArg Array.size h; rw [zs3] at this; cases this
  obtain ⟨Z, hZ⟩ : ∃ Z, Z = ((w.alloc (Obj.cells zSum 28)).alloc (Obj.cells zk64 67)).alloc (Obj.cells zk64 67) := ⟨_, rfl⟩
  have HZ := Lib.hid (show Below w.heap.size w Z by rw [hZ]; exact (((Below.refl _ _).alloc (Nat.le_refl _) _).alloc (by simp) _).alloc (by simp; omega) _)
  have H4Z := Lib.hid (show Blk Z w.heap.size 28 zSum by rw [hZ]; exact ((Blk.new w _ _).alloc _).alloc _)
  have H5Z := Lib.hid (show Blk Z (w.heap.size + 1) 67 zk64 by
    have h1 := Blk.new (w.alloc (Obj.cells zSum 28)) 67 zk64
    rw [show (w.alloc (Obj.cells zSum 28)).heap.size = w.heap.size + 1 by simp] at h1
    rw [hZ]; exact h1.alloc _)
  have H6Z := Lib.hid (show Blk Z (w.heap.size + 1 + 1) 67 zk64 by
    have h1 := Blk.new ((w.alloc (Obj.cells zSum 28)).alloc (Obj.cells zk64 67)) 67 zk64
    rw [show ((w.alloc (Obj.cells zSum 28)).alloc (Obj.cells zk64 67)).heap.size = w.heap.size + 1 + 1 by simp] at h1
    rw [hZ]; exact h1)
  have HIK := Lib.hid (show (Tryd.prog.info? 28).map (·.size) = some (vb (sha k)).size by rw [vb_size, sha_len]; kernel_rfl)
  have HSZ := Lib.hid (show Z.heap.size = w.heap.size + 1 + 1 + 1 by rw [hZ]; simp)
  have q1 : (64 : Int) < (k.length : Int) := by omega
  go_enter Tryd.func25, Tryd.ntmps25
  go_wp2_with fail
  rw [← hZ]
  have hof := (show ArrAt (Z.alloc (Obj.cells #[Value.slice A k.length ca] 24)) (.slice (some ⟨w.heap.size + 1 + 1 + 1, 0, none⟩) 1 1) 0 [(A, ca, k)] from ⟨_, rfl, Nat.zero_le _, by have := Blk.new Z 24 #[Value.slice A k.length ca]; rw [HSZ.out] at this; exact this⟩).of k (by show k ++ [] = k; rw [List.append_nil]) HKL.out (fun p hp => by
        rw [List.mem_singleton.1 hp]
        exact (HK.out.below ((HZ.out.mono hB).alloc (Nat.le_trans hB HZ.out.size) _)).more (Nat.le_trans hB (Nat.le_trans HZ.out.size (by simp)))) (by omega) (by simp) (HRO.out.next (HZ.out.alloc HZ.out.size _))
  have HOF := Lib.hid hof
  clear hof hZ
  go_upto_region 5 with (first
    | (go_at_call 35; (refine HOF.out.mono ?_); rintro e w1 ⟨rfl, hb⟩; have HB1 := Lib.hid hb; clear hb)
    | (refine wpList_store_rowTo rfl 28 (.tmp 7) (.tmp 15) rfl rfl w1.heap.size (vb (sha k)) rfl rfl 28 zSum (by exact Blk.new _ _ _) HIK.out (by rw [vb_size, sha_len]; rfl) (vb_one _) ?_; obtain ⟨X, hX⟩ : ∃ X, X = (w1.alloc (Obj.cells zSum 28)).setRow w1.heap.size (vb (sha k)) := ⟨_, rfl⟩; have hbx : Blk X w1.heap.size 28 (vb (sha k)) := (by rw [hX]; exact setRow_heap _ _ _ _ _ (0, 0) (Blk.new w1 _ _)); have hzx : Below Z.heap.size Z X := (by rw [hX]; exact ((((Below.refl _ _).alloc (Nat.le_refl _) _).trans (HB1.out.mono (by simp))).alloc (Nat.le_trans (by simp) HB1.out.size) _).trans ⟨rfl, rfl, rfl, by simp [World.setRow], fun i hi => setRow_other _ _ i _ (by have := HB1.out.size; simp at this; omega)⟩); rw [← hX]; clear hX))
  obtain ⟨kb, hkb⟩ : ∃ kb, kb = sha k := ⟨_, rfl⟩
  have hkb2 : keyB k = kb := by unfold keyB; rw [if_pos hlong, hkb]
  have HMAC := Lib.hid (show mac k m = sha (xr 92 (fill64 kb) ++ sha (xr 54 (fill64 kb) ++ m)) by unfold mac; rw [hkb2])
  have HX := Lib.hid (HZ.out.trans (hzx.mono HZ.out.size))
  have H4 := Lib.hid (H4Z.out.below hzx H4Z.out.lt)
  have H5 := Lib.hid (H5Z.out.below hzx H5Z.out.lt)
  have H6 := Lib.hid (H6Z.out.below hzx H6Z.out.lt)
  have hkl32 : kb.length = 32 := by rw [hkb, sha_len]
  obtain ⟨BK, hBK⟩ : ∃ BK, BK = w1.heap.size + 1 := ⟨_, rfl⟩
  have HKR := Lib.hid (show Rd X BK (some ⟨w1.heap.size, 0, none⟩) (byt kb) by rw [hkb, hBK]; exact rd_blk hbx _ 32 (by show byt _ = ((byt (sha k)).toArray.toList).take 32; rw [List.toList_toArray, List.take_of_length_le (by rw [byt_len, sha_len]; decide)]))
  have HK64 := Lib.hid (show kb.length ≤ 64 by omega)
  have HKB := Lib.hid (show ∀ c ∈ kb, c < 256 by rw [hkb]; exact sha_lt k)
  clear zf6 zs3 zs4 H4Z H5Z H6Z HOF HIK HSZ hzx hbx hkb hkb2 HZ HB1 q1
  rw [← hkl32]
  clear hkl32
  generalize w1.heap.size = g7 at *
  have hle : w.heap.size ≤ X.heap.size := HX.out.size
  obtain ⟨g4, hg4⟩ : ∃ g4, g4 = w.heap.size := ⟨_, rfl⟩
  obtain ⟨g5, hg5⟩ : ∃ g5, g5 = w.heap.size + 1 := ⟨_, rfl⟩
  obtain ⟨g6, hg6⟩ : ∃ g6, g6 = w.heap.size + 1 + 1 := ⟨_, rfl⟩
  rw [← hg5] at H5
  rw [← hg6] at H6
  rw [← hg4] at H4
  rw [← hg6, ← hg5]
  have n45 : g4 ≠ g5 := by omega
  have n46 : g4 ≠ g6 := by omega
  have n56 : g5 ≠ g6 := by omega
  have n65 : g6 ≠ g5 := by omega
  have l4 : w.heap.size ≤ g4 := by omega
  have l5 : w.heap.size ≤ g5 := by omega
  have l6 : w.heap.size ≤ g6 := by omega
  obtain ⟨X5, hcopy, h5, hb5, hoth⟩ := copy64 X g5 (some ⟨g7, 0, none⟩) kb.length BK kb H5.out HKR.out HK64.out
  have H45 := Lib.hid (hoth g4 _ _ n45 H4.out)
  have H55 := Lib.hid h5
  have H65 := Lib.hid (hoth g6 _ _ n65 H6.out)
  have HX5 := Lib.hid (HX.out.trans (hb5 _ l5))
  have HIF := Lib.hid (show (Tryd.prog.info? 67).map (·.size) = some (vb (fill64 kb)).size by rw [vb_size, fill64_len _ HK64.out]; exact info_k64)
  have HFL := Lib.hid (fill64_len kb HK64.out)
  have HFB := Lib.hid (fill64_lt HKB.out)
  have HLE := Lib.hid hle
  have HG4 := Lib.hid hg4
  clear h5 hb5 hoth H4 H5 H6 HX HK64 HKB hle hg4 hg5 hg6 HKR
  generalize fill64 kb = F at *
  go_wp2_with (first
    | (refine wpList_load_row rfl 67 (.tmp 5) rfl g5 rfl 67 (vb F) (0, 0) _ (by exact H55.out) Tryd.underlying67 rfl HIF.out ?_)
    | (refine wpList_store_rowTo rfl 67 (.tmp 6) (.tmp 20) rfl rfl g6 (vb F) rfl rfl 67 zk64 H65.out HIF.out (by rw [vb_size, HFL.out]; rfl) (vb_one _) ?_))
  obtain ⟨X6, hX6⟩ : ∃ X6, X6 = X5.setRow g6 (vb F) := ⟨_, rfl⟩
  have hm6 : MacS w X6 g5 g6 F 0 := by
    rw [hX6]
    refine ⟨HX5.out.trans ⟨rfl, rfl, rfl, by simp [World.setRow], fun i hi => setRow_other _ _ i _ (by omega)⟩, ?_, ?_⟩
    · rw [xrTo_zero]; exact (setRow_other _ _ g5 _ n56).trans H55.out
    · rw [xrTo_zero]; exact setRow_heap _ _ _ _ _ (0, 0) H65.out
  have HM6 := Lib.hid hm6
  have H46 := Lib.hid (show Blk X6 g4 28 zSum by rw [hX6]; exact (setRow_other _ _ g4 _ n46).trans H45.out)
  rw [← hX6]
  clear hX6 hm6 H45 H55 H65 HX5 HIF hcopy
  go_loopw [21] (fun i wr => ∃ k : Nat, k ≤ 64 ∧ i = .int .i64 (k : Int) ∧ MacS w wr g5 g6 F k ∧ Blk wr g4 28 zSum) (fun i _ => 64 - (intOf i).toNat)
  case atStart => exact ⟨0, by omega, rfl, HM6.out, H46.out⟩
  case round =>
    rename World => wo
    obtain ⟨i, hi, rfl, hs, h4⟩ := hrel
    have HS := Lib.hid hs
    have H4 := Lib.hid h4
    clear hs h4 HM6 H46
    by_cases hlt : i < 64
    · have hiF : i < F.length := by rw [HFL.out]; exact hlt
      have hf := getD_lt HFB.out i
      have c5 := HS.out.h5.cell i
      rw [vb_at _ i (by rw [xrTo_len _ _ _ (by omega)]; exact hiF), xrTo_at _ _ _ hiF] at c5
      have c6 := HS.out.h6.cell i
      rw [vb_at _ i (by rw [xrTo_len _ _ _ (by omega)]; exact hiF), xrTo_at _ _ _ hiF] at c6
      have s5 := xrTo_set 54 F i hiF
      have s6 := xrTo_set 92 F i hiF
      have x5 : bits BinOp.xor .u8 ((F.getD i 0 : Nat) : Int) 54 = ((F.getD i 0 ^^^ 54 : Nat) : Int) := u8_xor_nat (F.getD i 0) 54 hf (by decide)
      have x6 : bits BinOp.xor .u8 ((F.getD i 0 : Nat) : Int) 92 = ((F.getD i 0 ^^^ 92 : Nat) : Int) := u8_xor_nat (F.getD i 0) 92 hf (by decide)
      have HS5 := Lib.hid s5
      have HS6 := Lib.hid s6
      generalize F.getD i 0 = f at *
      generalize f ^^^ 54 = a at *
      generalize f ^^^ 92 = b at *
      have f5 := HS.out.h5.free i
      have h56 : Blk (wo.setCell ⟨g5, i, none⟩ (.int .u8 (a : Nat))) g6 67 (vb (xrTo 92 F i)) := HS.out.h6.far n65 _
      have c6' : (wo.setCell ⟨g5, i, none⟩ (.int .u8 (a : Nat))).cell? ⟨g6, i, none⟩ = some (.int .u8 (f : Nat)) := by
        rw [← c6, h56.cell, HS.out.h6.cell]
      have f6 := h56.free i
      have f6' := HS.out.h6.free i
      clear s5 s6
      have H56 := Lib.hid h56
      clear h56
      go_wp2_with fail
      refine ⟨⟨i + 1, by omega, by congr 1, ⟨(HS.out.bel.setCell l5 _).setCell l6 _, ?_, ?_⟩, ?_⟩, ?_⟩
      · rw [← HS5.out, ← vb_set]
        exact (HS.out.h5.set_ _ _).far n56 _
      · rw [← HS6.out, ← vb_set]
        exact H56.out.set_ _ _
      · exact (H4.out.far n45 _).far n46 _
      · simp only [intOf]; omega
    · obtain rfl : i = 64 := by omega
      have hI := HS.out.h5
      have hO := HS.out.h6
      rw [xrTo_end _ _ _ HFL.out] at hI hO
      have hIl : (xr 54 F).length = 64 := by rw [xr_len, HFL.out]
      have hOl : (xr 92 F).length = 64 := by rw [xr_len, HFL.out]
      have HIb := Lib.hid (xr_lt (by decide : 54 < 256) HFB.out)
      have HOb := Lib.hid (xr_lt (by decide : 92 < 256) HFB.out)
      have HBW := Lib.hid HS.out.bel
      have HI := Lib.hid hI
      have HO := Lib.hid hO
      have HIL := Lib.hid hIl
      have HOL := Lib.hid hOl
      clear hI hO hIl hOl HS HFB HFL
      generalize xr 54 F = I at *
      generalize xr 92 F = O at *
      have hof1 := (show ArrAt (wo.alloc (Obj.cells #[Value.slice (some ⟨g5, 0, none⟩) 64 64, Value.slice D m.length cb] 24)) (.slice (some ⟨wo.heap.size, 0, none⟩) 2 2) 0 [(some ⟨g5, 0, none⟩, 64, I), (D, cb, m)] from ⟨_, rfl, Nat.zero_le _, by
        have := Blk.new wo 24 #[Value.slice (some ⟨g5, 0, none⟩) 64 64, Value.slice D m.length cb]
        simpa [pv, HIL.out] using this⟩).of (I ++ m) (by show I ++ (m ++ []) = I ++ m; rw [List.append_nil]) (fun c hc => by
          rcases List.mem_append.1 hc with h | h
          · exact HIb.out c h
          · exact HML.out c h) (fun p hp => by
          simp only [List.mem_cons, List.not_mem_nil, or_false] at hp
          have hlw : wo.heap.size ≤ (wo.alloc (Obj.cells #[Value.slice (some ⟨g5, 0, none⟩) 64 64, Value.slice D m.length cb] 24)).heap.size := by simp
          rcases hp with rfl | rfl
          · have hlt := HI.out.lt
            exact ((rd_blk HI.out (byt I) 64 (by show byt I = ((byt I).toArray.toList).take 64; rw [List.toList_toArray, List.take_of_length_le (by rw [byt_len, HIL.out]; decide)])).below ((Below.refl _ _).alloc hlt _)).more (Nat.le_trans hlt hlw)
          · exact (HM.out.below ((HBW.out.mono hC).alloc (Nat.le_trans hC HBW.out.size) _)).more (Nat.le_trans hC (Nat.le_trans HBW.out.size hlw))) (by rw [List.length_append, HIL.out]; have := HMN.out; omega) (by simp) (HRO.out.next (HBW.out.alloc HBW.out.size _))
      have HOF1 := Lib.hid hof1
      have HSI := Lib.hid (show (Tryd.prog.info? 28).map (·.size) = some (vb (sha (I ++ m))).size by rw [vb_size, sha_len]; kernel_rfl)
      clear hof1
      go_upto_region 14 with (first
        | (go_at_call 35; (refine HOF1.out.mono ?_); rintro e w2 ⟨rfl, hb⟩; have HB2 := Lib.hid hb; clear hb)
        | (refine wpList_store_rowTo rfl 28 (.tmp 9) (.tmp 38) rfl rfl w2.heap.size (vb (sha (I ++ m))) rfl rfl 28 zSum (by exact Blk.new _ _ _) HSI.out (by rw [vb_size, sha_len]; rfl) (vb_one _) ?_))
      obtain ⟨Y, hY⟩ : ∃ Y, Y = (w2.alloc (Obj.cells zSum 28)).setRow w2.heap.size (vb (sha (I ++ m))) := ⟨_, rfl⟩
      have hwy : Below wo.heap.size wo Y := by
        have h0 := HB2.out.size
        simp at h0
        rw [hY]; exact ((((Below.refl _ _).alloc (Nat.le_refl _) _).trans (HB2.out.mono (by simp))).alloc (by omega) _).trans ⟨rfl, rfl, rfl, by simp [World.setRow], fun i hi => setRow_other _ _ i _ (by omega)⟩
      have H9 := Lib.hid (show Blk Y w2.heap.size 28 (vb (sha (I ++ m))) by rw [hY]; exact setRow_heap _ _ _ _ _ (0, 0) (Blk.new w2 _ _))
      have H4Y := Lib.hid (H4.out.below hwy H4.out.lt)
      have HOY := Lib.hid (HO.out.below hwy HO.out.lt)
      have HBY := Lib.hid (HBW.out.trans (hwy.mono HBW.out.size))
      have hsl := sha_lt (I ++ m)
      have hsn := sha_len (I ++ m)
      have HSL := Lib.hid hsl
      have HSN := Lib.hid hsn
      rw [← hY]
      clear hY hwy HOF1 HSI HB2 hsl hsn HI H4 HO
      generalize sha (I ++ m) = S1 at *
      generalize w2.heap.size = g9 at *
      refine wp_region_still_tail 2 (by kernel_rfl) (by kernel_rfl) ?_
      simp only [List.take_succ_cons, List.take_zero, List.drop_succ_cons, List.drop_zero]
      repeat still_step
      try refine wpStill_nil ?_
      change wpList _ _ _ _ _ Y.drew
      have hof2 := (show ArrAt (Y.drew.alloc (Obj.cells #[Value.slice (some ⟨g6, 0, none⟩) 64 64, Value.slice (some ⟨g9, 0, none⟩) 32 32] 24)) (.slice (some ⟨Y.heap.size, 0, none⟩) 2 2) 0 [(some ⟨g6, 0, none⟩, 64, O), (some ⟨g9, 0, none⟩, 32, S1)] from ⟨_, rfl, Nat.zero_le _, by
        have := Blk.new Y.drew 24 #[Value.slice (some ⟨g6, 0, none⟩) 64 64, Value.slice (some ⟨g9, 0, none⟩) 32 32]
        simpa [pv, HOL.out, HSN.out] using this⟩).of (O ++ S1) (by show O ++ (S1 ++ []) = O ++ S1; rw [List.append_nil]) (fun c hc => by
          rcases List.mem_append.1 hc with h | h
          · exact HOb.out c h
          · exact HSL.out c h) (fun p hp => by
          simp only [List.mem_cons, List.not_mem_nil, or_false] at hp
          have hlw : Y.heap.size ≤ (Y.drew.alloc (Obj.cells #[Value.slice (some ⟨g6, 0, none⟩) 64 64, Value.slice (some ⟨g9, 0, none⟩) 32 32] 24)).heap.size := by
            show Y.drew.heap.size ≤ _
            simp
          rcases hp with rfl | rfl
          · have hlt := HOY.out.lt
            exact ((rd_blk HOY.out (byt O) 64 (by show byt O = ((byt O).toArray.toList).take 64; rw [List.toList_toArray, List.take_of_length_le (by rw [byt_len, HOL.out]; decide)])).below ((Below.refl _ _).drew.alloc hlt _)).more (Nat.le_trans hlt hlw)
          · have hlt := H9.out.lt
            exact ((rd_blk H9.out (byt S1) 32 (by show byt S1 = ((byt S1).toArray.toList).take 32; rw [List.toList_toArray, List.take_of_length_le (by rw [byt_len, HSN.out]; decide)])).below ((Below.refl _ _).drew.alloc hlt _)).more (Nat.le_trans hlt hlw)) (by rw [List.length_append, HOL.out, HSN.out]; decide) (by simp) (HRO.out.next (HBY.out.drew.alloc HBY.out.size _))
      have HOF2 := Lib.hid hof2
      rw [← HMAC.out] at HOF2
      have HSM := Lib.hid (show (Tryd.prog.info? 28).map (·.size) = some (vb (mac k m)).size by rw [vb_size, mac_len]; kernel_rfl)
      clear hof2
      go_wp2_with (first
        | (go_at_call 35; (refine HOF2.out.mono ?_); rintro e w3 ⟨rfl, hb⟩; have HB3 := Lib.hid hb; clear hb; have H43 := Lib.hid (show Blk w3 w.heap.size 28 zSum from (by rw [← HG4.out]; exact H4Y.out.below ((((Below.refl _ _).drew).alloc (Nat.le_refl _) _).trans (HB3.out.mono (by show Y.drew.heap.size ≤ _; simp))) H4Y.out.lt)))
        | (refine wpList_store_rowTo rfl 28 (.tmp 4) (.tmp 42) rfl rfl w.heap.size (vb (mac k m)) rfl rfl 28 zSum H43.out HSM.out (by rw [vb_size, mac_len]; rfl) (vb_one _) ?_))
      first
        | rw [Exit.noGoto_ret]
        | skip
      refine bodyPost_ret (results_cell_row rfl _ _ w.heap.size 28 (vb (mac k m)) (0, 0) _ rfl (setRow_heap _ _ zSum _ 28 (0, 0) H43.out) Tryd.underlying28 rfl HSM.out) rfl ?_
      exact ⟨rfl, (HBY.out.trans (((((Below.refl _ _).drew).alloc (Nat.le_refl _) _).trans (HB3.out.mono (by show Y.drew.heap.size ≤ _; simp))).mono HBY.out.size)).trans ⟨rfl, rfl, rfl, by simp [World.setRow], fun i hi => setRow_other _ _ i _ (by omega)⟩⟩
set_option maxRecDepth 100000 in
set_option maxHeartbeats 8000000 in
theorem macS_c (B C : Nat) (A D : Option Addr) (ca cb : Nat) (k m : List Nat) (w : World) (hk : Rd w B A (byt k)) (hm : Rd w C D (byt m)) (hB : B ≤ w.heap.size) (hC : C ≤ w.heap.size) (hkl : ∀ c ∈ k, c < 256) (hml : ∀ c ∈ m, c < 256) (hkn : k.length ≤ 8000) (hmn : m.length ≤ 8000) (hR : RoundsAt w) (hlong : ¬ 64 < k.length) :
    Calls Tryd.prog 25 #[.slice A k.length ca, .slice D m.length cb] w fun e w' => e = .returned (.agg (vb (mac k m))) ∧ Below w.heap.size w w' := by
  have HK := Lib.hid hk
  have HM := Lib.hid hm
  have HKL := Lib.hid hkl
  have HML := Lib.hid hml
  have HRO := Lib.hid hR
  have HMN := Lib.hid hmn
  clear hk hm hkl hml hR hmn
  have zf := zero_sum
  have zs1 : zSum.size = 32 := by rfl
  have zs2 : ¬ zSum = #[] := by intro h; have := congrArg Array.size h; rw [zs1] at this; cases this
  have zf6 := zero_k64
  have zs3 : zk64.size = 64 := by rfl
  have zs4 : ¬ zk64 = #[] := by intro h; have := congrArg Array.size h; rw [zs3] at this; cases this
  obtain ⟨Z, hZ⟩ : ∃ Z, Z = ((w.alloc (Obj.cells zSum 28)).alloc (Obj.cells zk64 67)).alloc (Obj.cells zk64 67) := ⟨_, rfl⟩
  have HZ := Lib.hid (show Below w.heap.size w Z by rw [hZ]; exact (((Below.refl _ _).alloc (Nat.le_refl _) _).alloc (by simp) _).alloc (by simp; omega) _)
  have H4Z := Lib.hid (show Blk Z w.heap.size 28 zSum by rw [hZ]; exact ((Blk.new w _ _).alloc _).alloc _)
  have H5Z := Lib.hid (show Blk Z (w.heap.size + 1) 67 zk64 by
    have h1 := Blk.new (w.alloc (Obj.cells zSum 28)) 67 zk64
    rw [show (w.alloc (Obj.cells zSum 28)).heap.size = w.heap.size + 1 by simp] at h1
    rw [hZ]; exact h1.alloc _)
  have H6Z := Lib.hid (show Blk Z (w.heap.size + 1 + 1) 67 zk64 by
    have h1 := Blk.new ((w.alloc (Obj.cells zSum 28)).alloc (Obj.cells zk64 67)) 67 zk64
    rw [show ((w.alloc (Obj.cells zSum 28)).alloc (Obj.cells zk64 67)).heap.size = w.heap.size + 1 + 1 by simp] at h1
    rw [hZ]; exact h1)
  have q1 : ¬ (64 : Int) < (k.length : Int) := by omega
  go_enter Tryd.func25, Tryd.ntmps25
  go_upto_region 5 with fail
  rw [← hZ]
  clear hZ
  obtain ⟨X, hX⟩ : ∃ X, X = Z := ⟨_, rfl⟩
  rw [← hX] at HZ H4Z H5Z H6Z ⊢
  have HX := HZ
  have H4 := H4Z
  have H5 := H5Z
  have H6 := H6Z
  have hkb2 : keyB k = k := by unfold keyB; rw [if_neg hlong]
  have HMAC := Lib.hid (show mac k m = sha (xr 92 (fill64 k) ++ sha (xr 54 (fill64 k) ++ m)) by unfold mac; rw [hkb2])
  have HKR := Lib.hid (HK.out.below (HX.out.mono hB))
  have HK64 := Lib.hid (show k.length ≤ 64 by omega)
  have HKB := HKL
  clear zf6 zs3 zs4 H4Z H5Z H6Z HZ hX hkb2 q1
  have hle : w.heap.size ≤ X.heap.size := HX.out.size
  obtain ⟨g4, hg4⟩ : ∃ g4, g4 = w.heap.size := ⟨_, rfl⟩
  obtain ⟨g5, hg5⟩ : ∃ g5, g5 = w.heap.size + 1 := ⟨_, rfl⟩
  obtain ⟨g6, hg6⟩ : ∃ g6, g6 = w.heap.size + 1 + 1 := ⟨_, rfl⟩
  rw [← hg5] at H5
  rw [← hg6] at H6
  rw [← hg4] at H4
  rw [← hg6, ← hg5]
  have n45 : g4 ≠ g5 := by omega
  have n46 : g4 ≠ g6 := by omega
  have n56 : g5 ≠ g6 := by omega
  have n65 : g6 ≠ g5 := by omega
  have l4 : w.heap.size ≤ g4 := by omega
  have l5 : w.heap.size ≤ g5 := by omega
  have l6 : w.heap.size ≤ g6 := by omega
  obtain ⟨X5, hcopy, h5, hb5, hoth⟩ := copy64 X g5 A ca B k H5.out HKR.out HK64.out
  have H45 := Lib.hid (hoth g4 _ _ n45 H4.out)
  have H55 := Lib.hid h5
  have H65 := Lib.hid (hoth g6 _ _ n65 H6.out)
  have HX5 := Lib.hid (HX.out.trans (hb5 _ l5))
  have HIF := Lib.hid (show (Tryd.prog.info? 67).map (·.size) = some (vb (fill64 k)).size by rw [vb_size, fill64_len _ HK64.out]; exact info_k64)
  have HFL := Lib.hid (fill64_len k HK64.out)
  have HFB := Lib.hid (fill64_lt HKB.out)
  have HLE := Lib.hid hle
  have HG4 := Lib.hid hg4
  clear h5 hb5 hoth H4 H5 H6 HX HK64 HKB hle hg4 hg5 hg6 HKR
  generalize fill64 k = F at *
  go_wp2_with (first
    | (refine wpList_load_row rfl 67 (.tmp 5) rfl g5 rfl 67 (vb F) (0, 0) _ (by exact H55.out) Tryd.underlying67 rfl HIF.out ?_)
    | (refine wpList_store_rowTo rfl 67 (.tmp 6) (.tmp 20) rfl rfl g6 (vb F) rfl rfl 67 zk64 H65.out HIF.out (by rw [vb_size, HFL.out]; rfl) (vb_one _) ?_))
  obtain ⟨X6, hX6⟩ : ∃ X6, X6 = X5.setRow g6 (vb F) := ⟨_, rfl⟩
  have hm6 : MacS w X6 g5 g6 F 0 := by
    rw [hX6]
    refine ⟨HX5.out.trans ⟨rfl, rfl, rfl, by simp [World.setRow], fun i hi => setRow_other _ _ i _ (by omega)⟩, ?_, ?_⟩
    · rw [xrTo_zero]; exact (setRow_other _ _ g5 _ n56).trans H55.out
    · rw [xrTo_zero]; exact setRow_heap _ _ _ _ _ (0, 0) H65.out
  have HM6 := Lib.hid hm6
  have H46 := Lib.hid (show Blk X6 g4 28 zSum by rw [hX6]; exact (setRow_other _ _ g4 _ n46).trans H45.out)
  rw [← hX6]
  clear hX6 hm6 H45 H55 H65 HX5 HIF hcopy
  go_loopw [21] (fun i wr => ∃ k : Nat, k ≤ 64 ∧ i = .int .i64 (k : Int) ∧ MacS w wr g5 g6 F k ∧ Blk wr g4 28 zSum) (fun i _ => 64 - (intOf i).toNat)
  case atStart => exact ⟨0, by omega, rfl, HM6.out, H46.out⟩
  case round =>
    rename World => wo
    obtain ⟨i, hi, rfl, hs, h4⟩ := hrel
    have HS := Lib.hid hs
    have H4 := Lib.hid h4
    clear hs h4 HM6 H46
    by_cases hlt : i < 64
    · have hiF : i < F.length := by rw [HFL.out]; exact hlt
      have hf := getD_lt HFB.out i
      have c5 := HS.out.h5.cell i
      rw [vb_at _ i (by rw [xrTo_len _ _ _ (by omega)]; exact hiF), xrTo_at _ _ _ hiF] at c5
      have c6 := HS.out.h6.cell i
      rw [vb_at _ i (by rw [xrTo_len _ _ _ (by omega)]; exact hiF), xrTo_at _ _ _ hiF] at c6
      have s5 := xrTo_set 54 F i hiF
      have s6 := xrTo_set 92 F i hiF
      have x5 : bits BinOp.xor .u8 ((F.getD i 0 : Nat) : Int) 54 = ((F.getD i 0 ^^^ 54 : Nat) : Int) := u8_xor_nat (F.getD i 0) 54 hf (by decide)
      have x6 : bits BinOp.xor .u8 ((F.getD i 0 : Nat) : Int) 92 = ((F.getD i 0 ^^^ 92 : Nat) : Int) := u8_xor_nat (F.getD i 0) 92 hf (by decide)
      have HS5 := Lib.hid s5
      have HS6 := Lib.hid s6
      generalize F.getD i 0 = f at *
      generalize f ^^^ 54 = a at *
      generalize f ^^^ 92 = b at *
      have f5 := HS.out.h5.free i
      have h56 : Blk (wo.setCell ⟨g5, i, none⟩ (.int .u8 (a : Nat))) g6 67 (vb (xrTo 92 F i)) := HS.out.h6.far n65 _
      have c6' : (wo.setCell ⟨g5, i, none⟩ (.int .u8 (a : Nat))).cell? ⟨g6, i, none⟩ = some (.int .u8 (f : Nat)) := by
        rw [← c6, h56.cell, HS.out.h6.cell]
      have f6 := h56.free i
      have f6' := HS.out.h6.free i
      clear s5 s6
      have H56 := Lib.hid h56
      clear h56
      go_wp2_with fail
      refine ⟨⟨i + 1, by omega, by congr 1, ⟨(HS.out.bel.setCell l5 _).setCell l6 _, ?_, ?_⟩, ?_⟩, ?_⟩
      · rw [← HS5.out, ← vb_set]
        exact (HS.out.h5.set_ _ _).far n56 _
      · rw [← HS6.out, ← vb_set]
        exact H56.out.set_ _ _
      · exact (H4.out.far n45 _).far n46 _
      · simp only [intOf]; omega
    · obtain rfl : i = 64 := by omega
      have hI := HS.out.h5
      have hO := HS.out.h6
      rw [xrTo_end _ _ _ HFL.out] at hI hO
      have hIl : (xr 54 F).length = 64 := by rw [xr_len, HFL.out]
      have hOl : (xr 92 F).length = 64 := by rw [xr_len, HFL.out]
      have HIb := Lib.hid (xr_lt (by decide : 54 < 256) HFB.out)
      have HOb := Lib.hid (xr_lt (by decide : 92 < 256) HFB.out)
      have HBW := Lib.hid HS.out.bel
      have HI := Lib.hid hI
      have HO := Lib.hid hO
      have HIL := Lib.hid hIl
      have HOL := Lib.hid hOl
      clear hI hO hIl hOl HS HFB HFL
      generalize xr 54 F = I at *
      generalize xr 92 F = O at *
      have hof1 := (show ArrAt (wo.alloc (Obj.cells #[Value.slice (some ⟨g5, 0, none⟩) 64 64, Value.slice D m.length cb] 24)) (.slice (some ⟨wo.heap.size, 0, none⟩) 2 2) 0 [(some ⟨g5, 0, none⟩, 64, I), (D, cb, m)] from ⟨_, rfl, Nat.zero_le _, by
        have := Blk.new wo 24 #[Value.slice (some ⟨g5, 0, none⟩) 64 64, Value.slice D m.length cb]
        simpa [pv, HIL.out] using this⟩).of (I ++ m) (by show I ++ (m ++ []) = I ++ m; rw [List.append_nil]) (fun c hc => by
          rcases List.mem_append.1 hc with h | h
          · exact HIb.out c h
          · exact HML.out c h) (fun p hp => by
          simp only [List.mem_cons, List.not_mem_nil, or_false] at hp
          have hlw : wo.heap.size ≤ (wo.alloc (Obj.cells #[Value.slice (some ⟨g5, 0, none⟩) 64 64, Value.slice D m.length cb] 24)).heap.size := by simp
          rcases hp with rfl | rfl
          · have hlt := HI.out.lt
            exact ((rd_blk HI.out (byt I) 64 (by show byt I = ((byt I).toArray.toList).take 64; rw [List.toList_toArray, List.take_of_length_le (by rw [byt_len, HIL.out]; decide)])).below ((Below.refl _ _).alloc hlt _)).more (Nat.le_trans hlt hlw)
          · exact (HM.out.below ((HBW.out.mono hC).alloc (Nat.le_trans hC HBW.out.size) _)).more (Nat.le_trans hC (Nat.le_trans HBW.out.size hlw))) (by rw [List.length_append, HIL.out]; have := HMN.out; omega) (by simp) (HRO.out.next (HBW.out.alloc HBW.out.size _))
      have HOF1 := Lib.hid hof1
      have HSI := Lib.hid (show (Tryd.prog.info? 28).map (·.size) = some (vb (sha (I ++ m))).size by rw [vb_size, sha_len]; kernel_rfl)
      clear hof1
      go_upto_region 14 with (first
        | (go_at_call 35; (refine HOF1.out.mono ?_); rintro e w2 ⟨rfl, hb⟩; have HB2 := Lib.hid hb; clear hb)
        | (refine wpList_store_rowTo rfl 28 (.tmp 9) (.tmp 38) rfl rfl w2.heap.size (vb (sha (I ++ m))) rfl rfl 28 zSum (by exact Blk.new _ _ _) HSI.out (by rw [vb_size, sha_len]; rfl) (vb_one _) ?_))
      obtain ⟨Y, hY⟩ : ∃ Y, Y = (w2.alloc (Obj.cells zSum 28)).setRow w2.heap.size (vb (sha (I ++ m))) := ⟨_, rfl⟩
      have hwy : Below wo.heap.size wo Y := by
        have h0 := HB2.out.size
        simp at h0
        rw [hY]; exact ((((Below.refl _ _).alloc (Nat.le_refl _) _).trans (HB2.out.mono (by simp))).alloc (by omega) _).trans ⟨rfl, rfl, rfl, by simp [World.setRow], fun i hi => setRow_other _ _ i _ (by omega)⟩
      have H9 := Lib.hid (show Blk Y w2.heap.size 28 (vb (sha (I ++ m))) by rw [hY]; exact setRow_heap _ _ _ _ _ (0, 0) (Blk.new w2 _ _))
      have H4Y := Lib.hid (H4.out.below hwy H4.out.lt)
      have HOY := Lib.hid (HO.out.below hwy HO.out.lt)
      have HBY := Lib.hid (HBW.out.trans (hwy.mono HBW.out.size))
      have hsl := sha_lt (I ++ m)
      have hsn := sha_len (I ++ m)
      have HSL := Lib.hid hsl
      have HSN := Lib.hid hsn
      rw [← hY]
      clear hY hwy HOF1 HSI HB2 hsl hsn HI H4 HO
      generalize sha (I ++ m) = S1 at *
      generalize w2.heap.size = g9 at *
      refine wp_region_still_tail 2 (by kernel_rfl) (by kernel_rfl) ?_
      simp only [List.take_succ_cons, List.take_zero, List.drop_succ_cons, List.drop_zero]
      repeat still_step
      try refine wpStill_nil ?_
      change wpList _ _ _ _ _ Y.drew
      have hof2 := (show ArrAt (Y.drew.alloc (Obj.cells #[Value.slice (some ⟨g6, 0, none⟩) 64 64, Value.slice (some ⟨g9, 0, none⟩) 32 32] 24)) (.slice (some ⟨Y.heap.size, 0, none⟩) 2 2) 0 [(some ⟨g6, 0, none⟩, 64, O), (some ⟨g9, 0, none⟩, 32, S1)] from ⟨_, rfl, Nat.zero_le _, by
        have := Blk.new Y.drew 24 #[Value.slice (some ⟨g6, 0, none⟩) 64 64, Value.slice (some ⟨g9, 0, none⟩) 32 32]
        simpa [pv, HOL.out, HSN.out] using this⟩).of (O ++ S1) (by show O ++ (S1 ++ []) = O ++ S1; rw [List.append_nil]) (fun c hc => by
          rcases List.mem_append.1 hc with h | h
          · exact HOb.out c h
          · exact HSL.out c h) (fun p hp => by
          simp only [List.mem_cons, List.not_mem_nil, or_false] at hp
          have hlw : Y.heap.size ≤ (Y.drew.alloc (Obj.cells #[Value.slice (some ⟨g6, 0, none⟩) 64 64, Value.slice (some ⟨g9, 0, none⟩) 32 32] 24)).heap.size := by
            show Y.drew.heap.size ≤ _
            simp
          rcases hp with rfl | rfl
          · have hlt := HOY.out.lt
            exact ((rd_blk HOY.out (byt O) 64 (by show byt O = ((byt O).toArray.toList).take 64; rw [List.toList_toArray, List.take_of_length_le (by rw [byt_len, HOL.out]; decide)])).below ((Below.refl _ _).drew.alloc hlt _)).more (Nat.le_trans hlt hlw)
          · have hlt := H9.out.lt
            exact ((rd_blk H9.out (byt S1) 32 (by show byt S1 = ((byt S1).toArray.toList).take 32; rw [List.toList_toArray, List.take_of_length_le (by rw [byt_len, HSN.out]; decide)])).below ((Below.refl _ _).drew.alloc hlt _)).more (Nat.le_trans hlt hlw)) (by rw [List.length_append, HOL.out, HSN.out]; decide) (by simp) (HRO.out.next (HBY.out.drew.alloc HBY.out.size _))
      have HOF2 := Lib.hid hof2
      rw [← HMAC.out] at HOF2
      have HSM := Lib.hid (show (Tryd.prog.info? 28).map (·.size) = some (vb (mac k m)).size by rw [vb_size, mac_len]; kernel_rfl)
      clear hof2
      go_wp2_with (first
        | (go_at_call 35; (refine HOF2.out.mono ?_); rintro e w3 ⟨rfl, hb⟩; have HB3 := Lib.hid hb; clear hb; have H43 := Lib.hid (show Blk w3 w.heap.size 28 zSum from (by rw [← HG4.out]; exact H4Y.out.below ((((Below.refl _ _).drew).alloc (Nat.le_refl _) _).trans (HB3.out.mono (by show Y.drew.heap.size ≤ _; simp))) H4Y.out.lt)))
        | (refine wpList_store_rowTo rfl 28 (.tmp 4) (.tmp 42) rfl rfl w.heap.size (vb (mac k m)) rfl rfl 28 zSum H43.out HSM.out (by rw [vb_size, mac_len]; rfl) (vb_one _) ?_))
      first
        | rw [Exit.noGoto_ret]
        | skip
      refine bodyPost_ret (results_cell_row rfl _ _ w.heap.size 28 (vb (mac k m)) (0, 0) _ rfl (setRow_heap _ _ zSum _ 28 (0, 0) H43.out) Tryd.underlying28 rfl HSM.out) rfl ?_
      exact ⟨rfl, (HBY.out.trans (((((Below.refl _ _).drew).alloc (Nat.le_refl _) _).trans (HB3.out.mono (by show Y.drew.heap.size ≤ _; simp))).mono HBY.out.size)).trans ⟨rfl, rfl, rfl, by simp [World.setRow], fun i hi => setRow_other _ _ i _ (by omega)⟩⟩
theorem mac_c (B C : Nat) (A D : Option Addr) (ca cb : Nat) (k m : List Nat) (w : World) (hk : Rd w B A (byt k)) (hm : Rd w C D (byt m)) (hB : B ≤ w.heap.size) (hC : C ≤ w.heap.size) (hkl : ∀ c ∈ k, c < 256) (hml : ∀ c ∈ m, c < 256) (hkn : k.length ≤ 8000) (hmn : m.length ≤ 8000) (hR : RoundsAt w) :
    Calls Tryd.prog 25 #[.slice A k.length ca, .slice D m.length cb] w fun e w' => e = .returned (.agg (vb (mac k m))) ∧ Below w.heap.size w w' := by
  by_cases h : 64 < k.length
  · exact macL_c B C A D ca cb k m w hk hm hB hC hkl hml hkn hmn hR h
  · exact macS_c B C A D ca cb k m w hk hm hB hC hkl hml hkn hmn hR h
end Go.Proofs.YtdbfikcpaionbaaDoor
namespace Go.Proofs.YtdbfikcpaionbaaDoor
open Go.RowKit
set_option linter.unusedVariables false
set_option linter.unusedSimpArgs false
def Sep (u v : Value) : Prop := ∀ g, u.ownBlock = some g → v.ownBlock ≠ some g
theorem own_base_le {w : World} {base base' : Nat} {e : TypeId} {size n : Nat} {v : Value} {xs : List Value} (h : w.ownsRow base e size v n xs) (hb : base' ≤ base) : w.ownsRow base' e size v n xs :=
  ⟨h.1, h.2.elim Or.inl (fun ⟨g, cap, cur, hv, hg, r⟩ => Or.inr ⟨g, cap, cur, hv, Nat.le_trans hb hg, r⟩)⟩
theorem Sep.symm {u v : Value} (h : Sep u v) : Sep v u := fun g h1 h2 => h g h2 h1
/-- two rows of bytes, apart -/
structure Own2 (w : World) (base : Nat) (a : Value) (la : List Nat) (b : Value) (lb : List Nat) : Prop where
  oa : OwnB w base a la
  ob : OwnB w base b lb
  ab : Sep a b
theorem Own2.rot {w : World} {base : Nat} {a b : Value} {la lb : List Nat} (h : Own2 w base a la b lb) : Own2 w base b lb a la := ⟨h.ob, h.oa, h.ab.symm⟩
theorem Own2.alloc {w : World} {base : Nat} {a b : Value} {la lb : List Nat} (h : Own2 w base a la b lb) (o : Obj) : Own2 (w.alloc o) base a la b lb := ⟨h.oa.alloc o, h.ob.alloc o, h.ab⟩
theorem Own2.keep {w w' : World} {base : Nat} {a b : Value} {la lb : List Nat} (h : Own2 w base a la b lb) (hb : Below w.heap.size w w') : Own2 w' base a la b lb := ⟨h.oa.next hb, h.ob.next hb, h.ab⟩
theorem Own2.app {w w' : World} {base : Nat} {a b a' : Value} {la lb new : List Nat} (h : Own2 w base a la b lb) (hap : Apped w base 5 1 a w' a' (la.length + new.length) (byt la ++ byt new)) : Own2 w' base a' (la ++ new) b lb := by
  have ho : Only (fun k => a.ownBlock = some k) w w' := hap.only (fun g h => h)
  refine ⟨OwnB.app hap, own_keep h.ob ho (fun g h1 h2 => h.ab g h2 h1), ?_⟩
  intro g hg hg2
  rcases hap.lies with h1 | h1
  · exact h.ab g (h1 ▸ hg) hg2
  · rw [h1] at hg
    injection hg with hg
    have := own_lt h.ob g hg2
    omega
theorem Own2.snoc {w w' : World} {base : Nat} {a b a' : Value} {la lb : List Nat} {c : Nat} (h : Own2 w base a la b lb) (hap : Apped w base 5 1 a w' a' (la.length + 1) (byt la ++ [.int .u8 (c : Nat)])) : Own2 w' base a' (la ++ [c]) b lb := h.app (new := [c]) hap
theorem Own2.nil_ (w : World) (base : Nat) : Own2 w base (.slice none 0 0) [] (.slice none 0 0) [] := ⟨OwnB.nil_ _ _, OwnB.nil_ _ _, fun g h => by cases h⟩
theorem xr_take_succ (b : Nat) (F : List Nat) (i : Nat) (h : i < F.length) : xr b (F.take (i + 1)) = xr b (F.take i) ++ [F.getD i 0 ^^^ b] := by
  unfold xr
  rw [List.take_add_one, List.getElem?_eq_getElem h, List.map_append, List.getD_eq_getElem?_getD, List.getElem?_eq_getElem h]
  rfl
theorem fill64_at (k : List Nat) (i : Nat) (h : i < k.length) : (fill64 k).getD i 0 = k.getD i 0 := by
  unfold fill64
  rw [List.getD_eq_getElem?_getD, List.getElem?_append_left h, List.getD_eq_getElem?_getD]
theorem fill64_far (k : List Nat) (i : Nat) (h : ¬ i < k.length) : (fill64 k).getD i 0 = 0 := by
  unfold fill64
  rw [List.getD_eq_getElem?_getD, List.getElem?_append_right (by omega), List.getElem?_replicate]
  split <;> rfl
set_option maxRecDepth 100000 in
set_option maxHeartbeats 8000000 in
theorem rmacS_c (B C : Nat) (A D : Option Addr) (ca cb : Nat) (k m : List Nat) (w : World) (hk : Rd w B A (byt k)) (hm : Rd w C D (byt m)) (hB : B ≤ w.heap.size) (hC : C ≤ w.heap.size) (hkl : ∀ c ∈ k, c < 256) (hml : ∀ c ∈ m, c < 256) (hkn : k.length ≤ 8000) (hmn : m.length ≤ 8000) (hlong : ¬ 64 < k.length) :
    Calls Tryd.prog 28 #[.slice A k.length ca, .slice D m.length cb] w fun e w' => ∃ v, e = .returned v ∧ OwnB w' w.heap.size v (mac k m) ∧ Below w.heap.size w w' := by
  obtain ⟨i0, hi, hz0, hz1, hz2⟩ := info_parts byteInfo
  have HK := Lib.hid hk
  have HM := Lib.hid hm
  have HKL := Lib.hid hkl
  have HML := Lib.hid hml
  have HMN := Lib.hid hmn
  clear hk hm hkl hml hmn
  have zf := zero_sum
  have zs1 : zSum.size = 32 := by rfl
  have zs2 : ¬ zSum = #[] := by intro h; have := congrArg Array.size h; rw [zs1] at this; cases this
  have q1 : ¬ (64 : Int) < (k.length : Int) := by omega
  go_enter Tryd.func28, Tryd.ntmps28
  go_wp2_with fail
  obtain ⟨X, hX⟩ : ∃ X, X = w := ⟨_, rfl⟩
  rw [← hX]
  have HX := Lib.hid (show Below w.heap.size w X by rw [hX]; exact Below.refl _ _)
  have hkb2 : keyB k = k := by unfold keyB; rw [if_neg hlong]
  have HMAC := Lib.hid (show mac k m = sha (xr 92 (fill64 k) ++ sha (xr 54 (fill64 k) ++ m)) by unfold mac; rw [hkb2])
  have HKR := Lib.hid (show Rd X B A (byt k) by rw [hX]; exact HK.out)
  have BKle := Lib.hid (show B ≤ X.heap.size by rw [hX]; exact hB)
  have HK64 := Lib.hid (show k.length ≤ 64 by omega)
  have HKB := HKL
  clear hX hkb2 q1
  have HWX := Lib.hid HX.out.size
  have HFL := Lib.hid (fill64_len k HK64.out)
  have HFB := Lib.hid (fill64_lt HKB.out)
  have HFA := Lib.hid (fun i (h : i < k.length) => fill64_at k i h)
  have HFN := Lib.hid (fun i (h : ¬ i < k.length) => fill64_far k i h)
  generalize fill64 k = F at *
  go_loopw [6, 7, 8] (fun va vb' vi wr => ∃ i : Nat, i ≤ 64 ∧ vi = .int .i64 (i : Int) ∧ Own2 wr X.heap.size va (xr 92 (F.take i)) vb' (xr 54 (F.take i)) ∧ Below X.heap.size X wr) (fun _ _ vi _ => 64 - (intOf vi).toNat)
  case atStart => exact ⟨0, by omega, rfl, Own2.nil_ _ _, Below.refl _ _⟩
  case round =>
    rename World => wr
    obtain ⟨i, hi64, rfl, ho, hb⟩ := hrel
    have HO := Lib.hid ho
    have HB := Lib.hid hb
    clear ho hb
    by_cases hlt : i < 64
    · have hiF : i < F.length := by rw [HFL.out]; exact hlt
      have hf := getD_lt HFB.out i
      have HT92 := Lib.hid (xr_take_succ 92 F i hiF)
      have HT54 := Lib.hid (xr_take_succ 54 F i hiF)
      have HL92 := Lib.hid (show (xr 92 (F.take i)).length = i by rw [xr_len, List.length_take]; omega)
      have HL54 := Lib.hid (show (xr 54 (F.take i)).length = i by rw [xr_len, List.length_take]; omega)
      have x5 : bits BinOp.xor .u8 ((F.getD i 0 : Nat) : Int) 54 = ((F.getD i 0 ^^^ 54 : Nat) : Int) := u8_xor_nat (F.getD i 0) 54 hf (by decide)
      have x6 : bits BinOp.xor .u8 ((F.getD i 0 : Nat) : Int) 92 = ((F.getD i 0 ^^^ 92 : Nat) : Int) := u8_xor_nat (F.getD i 0) 92 hf (by decide)
      obtain ⟨A6, k6, rfl, _, _, _⟩ := HO.out.oa.rd
      obtain ⟨A7, k7, rfl, _, _, _⟩ := HO.out.ob.rd
      by_cases hik : i < k.length
      · have hfa := HFA.out i hik
        rw [hfa] at x5 x6 HT92 HT54 hf
        obtain ⟨ad, eAD, hab, hc⟩ := HKR.out.byte hik
        subst eAD
        have q0 : wr.cell? (ad.add i) = some (.int .u8 (k.getD i 0 : Nat)) := (HB.out.cell (p := ad.add i) (by rw [add_block]; exact Nat.lt_of_lt_of_le hab BKle.out)).trans hc
        clear hc hfa
        generalize k.getD i 0 = f at *
        generalize f ^^^ 92 = f92 at *
        generalize f ^^^ 54 = f54 at *
        go_wp2_with (first
          | (at_builtin; refine wpList_app _ rfl (.tmp 32) (.tmp 35) _ rfl X.heap.size 5 i0 (.int .u8 0) 1 1 Tryd.underlying24 hi hz0 hz1 hz2 rfl (by decide) _ _ _ rfl (HO.out.alloc _).oa _ _ 1 1 [.int .u8 (f92 : Nat)] rfl rfl (by exact rd_one _ _ _) (byt_one [f92]) (by have := HL92.out; omega) (by have := HL92.out; omega) (by have := HB.out.size; simp; omega) ?_; intro v1 w1 hap; have HO1 := Lib.hid ((HO.out.alloc _).snoc hap); have HB1 := Lib.hid (show Below X.heap.size X w1 from (HB.out.alloc HB.out.size _).trans (hap.below (HO.out.alloc _).oa (by have := HB.out.size; simp; omega))); clear hap)
          | (at_builtin; refine wpList_app _ rfl (.tmp 37) (.tmp 40) _ rfl X.heap.size 5 i0 (.int .u8 0) 1 1 Tryd.underlying24 hi hz0 hz1 hz2 rfl (by decide) _ _ _ rfl (HO1.out.rot.alloc _).oa _ _ 1 1 [.int .u8 (f54 : Nat)] rfl rfl (by exact rd_one _ _ _) (byt_one [f54]) (by have := HL54.out; omega) (by have := HL54.out; omega) (by have := HB1.out.size; simp; omega) ?_; intro v2 w2 hap; have HO2 := Lib.hid ((HO1.out.rot.alloc _).snoc hap).rot; have HB2 := Lib.hid (show Below X.heap.size X w2 from (HB1.out.alloc HB1.out.size _).trans (hap.below (HO1.out.rot.alloc _).oa (by have := HB1.out.size; simp; omega))); clear hap))
        refine ⟨⟨i + 1, by omega, by congr 1, by rw [HT92.out, HT54.out]; exact HO2.out, HB2.out⟩, ?_⟩
        simp only [intOf]; omega
      · have hfa := HFN.out i hik
        rw [hfa] at x5 x6 HT92 HT54 hf
        clear hfa
        have x5' : bits BinOp.xor .u8 0 54 = ((0 ^^^ 54 : Nat) : Int) := x5
        have x6' : bits BinOp.xor .u8 0 92 = ((0 ^^^ 92 : Nat) : Int) := x6
        clear x5 x6
        generalize (0 ^^^ 92 : Nat) = f92 at *
        generalize (0 ^^^ 54 : Nat) = f54 at *
        go_wp2_with (first
          | (at_builtin; refine wpList_app _ rfl (.tmp 32) (.tmp 35) _ rfl X.heap.size 5 i0 (.int .u8 0) 1 1 Tryd.underlying24 hi hz0 hz1 hz2 rfl (by decide) _ _ _ rfl (HO.out.alloc _).oa _ _ 1 1 [.int .u8 (f92 : Nat)] rfl rfl (by exact rd_one _ _ _) (byt_one [f92]) (by have := HL92.out; omega) (by have := HL92.out; omega) (by have := HB.out.size; simp; omega) ?_; intro v1 w1 hap; have HO1 := Lib.hid ((HO.out.alloc _).snoc hap); have HB1 := Lib.hid (show Below X.heap.size X w1 from (HB.out.alloc HB.out.size _).trans (hap.below (HO.out.alloc _).oa (by have := HB.out.size; simp; omega))); clear hap)
          | (at_builtin; refine wpList_app _ rfl (.tmp 37) (.tmp 40) _ rfl X.heap.size 5 i0 (.int .u8 0) 1 1 Tryd.underlying24 hi hz0 hz1 hz2 rfl (by decide) _ _ _ rfl (HO1.out.rot.alloc _).oa _ _ 1 1 [.int .u8 (f54 : Nat)] rfl rfl (by exact rd_one _ _ _) (byt_one [f54]) (by have := HL54.out; omega) (by have := HL54.out; omega) (by have := HB1.out.size; simp; omega) ?_; intro v2 w2 hap; have HO2 := Lib.hid ((HO1.out.rot.alloc _).snoc hap).rot; have HB2 := Lib.hid (show Below X.heap.size X w2 from (HB1.out.alloc HB1.out.size _).trans (hap.below (HO1.out.rot.alloc _).oa (by have := HB1.out.size; simp; omega))); clear hap))
        refine ⟨⟨i + 1, by omega, by congr 1, by rw [HT92.out, HT54.out]; exact HO2.out, HB2.out⟩, ?_⟩
        simp only [intOf]; omega
    · obtain rfl : i = 64 := by omega
      have ho := HO.out
      rw [List.take_of_length_le (by rw [HFL.out]; decide)] at ho
      have HIb := Lib.hid (xr_lt (by decide : 54 < 256) HFB.out)
      have HOb := Lib.hid (xr_lt (by decide : 92 < 256) HFB.out)
      have HIL := Lib.hid (show (xr 54 F).length = 64 by rw [xr_len, HFL.out])
      have HOL := Lib.hid (show (xr 92 F).length = 64 by rw [xr_len, HFL.out])
      clear HO HFB HFL HFA HFN HKR HKB HK64 BKle
      generalize xr 54 F = I at *
      generalize xr 92 F = O at *
      have HO := Lib.hid ho
      clear ho
      have HMW := Lib.hid (show Rd wr C D (byt m) from (HM.out.below (HX.out.mono hC)).below (HB.out.mono (Nat.le_trans hC HX.out.size)))
      have HXW := Lib.hid (show Below w.heap.size w wr from HX.out.trans (HB.out.mono HX.out.size))
      have HBX := Lib.hid (show X.heap.size ≤ wr.heap.size from HB.out.size)
      obtain ⟨J, hJ⟩ : ∃ J, J = I ++ m := ⟨_, rfl⟩
      obtain ⟨S1, hS1⟩ : ∃ S1, S1 = sha J := ⟨_, rfl⟩
      obtain ⟨P, hP⟩ : ∃ P, P = O ++ S1 := ⟨_, rfl⟩
      obtain ⟨M, hM⟩ : ∃ M, M = mac k m := ⟨_, rfl⟩
      have HJ := Lib.hid hJ
      have HP := Lib.hid hP
      have HM2 := Lib.hid hM
      have HS1 := Lib.hid hS1.symm
      have HMS := Lib.hid (show sha P = M by rw [hM, HMAC.out, hP, hS1, hJ])
      have HSN := Lib.hid (show S1.length = 32 by rw [hS1, sha_len])
      have HMNN := Lib.hid (show M.length = 32 by rw [hM, mac_len])
      have HSLT := Lib.hid (show ∀ c ∈ S1, c < 256 by rw [hS1]; exact sha_lt _)
      clear hJ hS1 hP hM HMAC
      have HSI := Lib.hid (show (Tryd.prog.info? 28).map (·.size) = some (vb S1).size by rw [vb_size, HSN.out]; kernel_rfl)
      have HSM := Lib.hid (show (Tryd.prog.info? 28).map (·.size) = some (vb M).size by rw [vb_size, HMNN.out]; kernel_rfl)
      have HIM := Lib.hid (show ∀ c ∈ J, c < 256 from fun c hc => by
        rw [HJ.out] at hc
        rcases List.mem_append.1 hc with h | h
        · exact HIb.out c h
        · exact HML.out c h)
      have HIN := Lib.hid (show J.length ≤ 10000 by rw [HJ.out, List.length_append, HIL.out]; have := HMN.out; omega)
      have HOM := Lib.hid (show ∀ c ∈ P, c < 256 from fun c hc => by
        rw [HP.out] at hc
        rcases List.mem_append.1 hc with h | h
        · exact HOb.out c h
        · exact HSLT.out c h)
      have HON := Lib.hid (show P.length ≤ 10000 by rw [HP.out, List.length_append, HOL.out, HSN.out]; decide)
      clear HM HB HX hB hC
      obtain ⟨A6, k6, rfl, _, _, _⟩ := HO.out.oa.rd
      obtain ⟨A7, k7, rfl, _, _, _⟩ := HO.out.ob.rd
      go_upto_region 14 with (first
        | (at_builtin; refine wpList_app _ rfl (.tmp 42) (.tmp 43) _ rfl X.heap.size 5 i0 (.int .u8 0) 1 1 Tryd.underlying24 hi hz0 hz1 hz2 rfl (by decide) _ _ _ rfl HO.out.rot.oa C D m.length cb (byt m) rfl (by simp [byt_len]) HMW.out (byt_one m) (by rw [HIL.out]; have := HMN.out; omega) (by rw [HIL.out]; have := HMN.out; omega) HBX.out ?_; intro v3 w3 hap; have ho3 := (HO.out.rot.app hap).rot; rw [← HJ.out] at ho3; have HB3 := Lib.hid (hap.below HO.out.rot.oa HBX.out); obtain ⟨A3, k3, rfl, _, _, r3⟩ := ho3.ob.rd; have HR3 := Lib.hid r3; have HO3 := Lib.hid ho3; clear ho3 r3 hap)
        | (go_at_call 37; (refine (rsum_c w3.heap.size A3 k3 J w3 HR3.out (Nat.le_refl _) HIM.out HIN.out).mono ?_); rw [HS1.out]; rintro e w4 ⟨rfl, hb⟩; have HO4 := Lib.hid (HO3.out.keep hb); have HB4 := Lib.hid (HB3.out.trans (hb.mono (Nat.le_trans HBX.out HB3.out.size))); clear hb)
        | (refine wpList_store_rowTo rfl 28 (.tmp 10) (.tmp 45) rfl rfl w4.heap.size (vb S1) rfl rfl 28 zSum (by exact Blk.new _ _ _) HSI.out (by rw [vb_size, HSN.out]; rfl) (vb_one _) ?_; obtain ⟨Y, hY⟩ : ∃ Y, Y = (w4.alloc (Obj.cells zSum 28)).setRow w4.heap.size (vb S1) := ⟨_, rfl⟩; have h4y : Below w4.heap.size w4 Y := (by rw [hY]; exact ((Below.refl _ _).alloc (Nat.le_refl _) _).trans ⟨rfl, rfl, rfl, by simp [World.setRow], fun i hi => setRow_other _ _ i _ (by omega)⟩); have hby : Blk Y w4.heap.size 28 (vb S1) := (by rw [hY]; exact setRow_heap _ _ _ _ _ (0, 0) (Blk.new w4 _ _)); have HRY := Lib.hid (show Rd Y Y.heap.size (some ⟨w4.heap.size, 0, none⟩) (byt S1) from (rd_blk hby _ 32 (by show byt _ = ((byt S1).toArray.toList).take 32; rw [List.toList_toArray, List.take_of_length_le (by rw [byt_len, HSN.out]; decide)])).more hby.lt); have HOY := Lib.hid (HO4.out.keep h4y); have HBY := Lib.hid (HB4.out.trans (h4y.mono (Nat.le_trans HBX.out HB4.out.size))); rw [← hY]; clear hY h4y hby))
      go_upto_region 15 with (first
        | (at_builtin; refine wpList_app _ rfl (.tmp 46) (.tmp 47) _ rfl X.heap.size 5 i0 (.int .u8 0) 1 1 Tryd.underlying24 hi hz0 hz1 hz2 rfl (by decide) _ _ _ rfl HOY.out.oa _ (some ⟨w4.heap.size, 0, none⟩) 32 32 (byt S1) rfl (by simp [byt_len, HSN.out]) HRY.out (byt_one _) (by rw [HOL.out]; decide) (by rw [HOL.out]; decide) (Nat.le_trans HBX.out HBY.out.size) ?_; intro v5 w5 hap; have ho5 : OwnB w5 X.heap.size v5 P := (by rw [HP.out]; exact OwnB.app (by rw [HSN.out]; exact hap)); have HB5 := Lib.hid (HBY.out.trans (hap.below HOY.out.oa (Nat.le_trans HBX.out HBY.out.size))); obtain ⟨A5, k5, rfl, _, _, r5⟩ := ho5.rd; have HR5 := Lib.hid r5; clear ho5 r5 hap)
        | (go_at_call 37; (refine (rsum_c w5.heap.size A5 k5 P w5 HR5.out (Nat.le_refl _) HOM.out HON.out).mono ?_); rw [HMS.out]; rintro e w6 ⟨rfl, hb⟩; have HB6 := Lib.hid (HB5.out.trans (hb.mono (Nat.le_trans HBX.out HB5.out.size))); clear hb)
        | (refine wpList_store_rowTo rfl 28 (.tmp 11) (.tmp 49) rfl rfl w6.heap.size (vb M) rfl rfl 28 zSum (by exact Blk.new _ _ _) HSM.out (by rw [vb_size, HMNN.out]; rfl) (vb_one _) ?_; obtain ⟨V, hV⟩ : ∃ V, V = (w6.alloc (Obj.cells zSum 28)).setRow w6.heap.size (vb M) := ⟨_, rfl⟩; have h6v : Below w6.heap.size w6 V := (by rw [hV]; exact ((Below.refl _ _).alloc (Nat.le_refl _) _).trans ⟨rfl, rfl, rfl, by simp [World.setRow], fun i hi => setRow_other _ _ i _ (by omega)⟩); have hbv : Blk V w6.heap.size 28 (vb M) := (by rw [hV]; exact setRow_heap _ _ _ _ _ (0, 0) (Blk.new w6 _ _)); have HRV := Lib.hid (show Rd V V.heap.size (some ⟨w6.heap.size, 0, none⟩) (byt M) from (rd_blk hbv _ 32 (by show byt _ = ((byt M).toArray.toList).take 32; rw [List.toList_toArray, List.take_of_length_le (by rw [byt_len, HMNN.out]; decide)])).more hbv.lt); have HBV := Lib.hid (HB6.out.trans (h6v.mono (Nat.le_trans HBX.out HB6.out.size))); rw [← hV]; clear hV h6v hbv))
      go_wp2_with ((at_builtin; refine wpList_app _ rfl (.tmp 50) (.tmp 51) _ rfl V.heap.size 5 i0 (.int .u8 0) 1 1 Tryd.underlying24 hi hz0 hz1 hz2 rfl (by decide) _ 0 [] rfl (by exact OwnB.new V _ [] (Nat.le_refl _) (by simp [maxLen])) _ (some ⟨w6.heap.size, 0, none⟩) 32 32 (byt M) rfl (by simp [byt_len, HMNN.out]) (by exact HRV.out.ext ((Below.refl _ _).alloc (Nat.le_refl _) _)) (byt_one _) (by decide) (by decide) (by simp) ?_; intro v7 w7 hap; have HO7 := Lib.hid (show OwnB w7 V.heap.size v7 M from (by have := hap.own; unfold OwnB; rw [HMNN.out]; simpa using this)); have HB7 := Lib.hid (show Below V.heap.size V w7 from ((Below.refl _ _).alloc (Nat.le_refl _) _).trans (hap.below (by exact OwnB.new V _ [] (Nat.le_refl _) (by simp [maxLen])) (by simp))); clear hap))
      go_ret
      rw [← HM2.out]
      have hxv : X.heap.size ≤ V.heap.size := Nat.le_trans HBX.out HBV.out.size
      have hwx : w.heap.size ≤ X.heap.size := HWX.out
      exact ⟨_, rfl, own_base_le HO7.out (Nat.le_trans hwx hxv), (HXW.out.trans (HBV.out.mono hwx)).trans (HB7.out.mono (Nat.le_trans hwx hxv))⟩
set_option maxRecDepth 100000 in
set_option maxHeartbeats 8000000 in
theorem rmacL_c (B C : Nat) (A D : Option Addr) (ca cb : Nat) (k m : List Nat) (w : World) (hk : Rd w B A (byt k)) (hm : Rd w C D (byt m)) (hB : B ≤ w.heap.size) (hC : C ≤ w.heap.size) (hkl : ∀ c ∈ k, c < 256) (hml : ∀ c ∈ m, c < 256) (hkn : k.length ≤ 8000) (hmn : m.length ≤ 8000) (hlong : 64 < k.length) :
    Calls Tryd.prog 28 #[.slice A k.length ca, .slice D m.length cb] w fun e w' => ∃ v, e = .returned v ∧ OwnB w' w.heap.size v (mac k m) ∧ Below w.heap.size w w' := by
  obtain ⟨i0, hi, hz0, hz1, hz2⟩ := info_parts byteInfo
  have HK := Lib.hid hk
  have HM := Lib.hid hm
  have HKL := Lib.hid hkl
  have HML := Lib.hid hml
  have HMN := Lib.hid hmn
  clear hk hm hkl hml hmn
  have zf := zero_sum
  have zs1 : zSum.size = 32 := by rfl
  have zs2 : ¬ zSum = #[] := by intro h; have := congrArg Array.size h; rw [zs1] at this; cases this
  have HIK := Lib.hid (show (Tryd.prog.info? 28).map (·.size) = some (vb (sha k)).size by rw [vb_size, sha_len]; kernel_rfl)
  have q1 : (64 : Int) < (k.length : Int) := by omega
  go_enter Tryd.func28, Tryd.ntmps28
  go_wp2_with (first
    | (go_at_call 37; (refine (rsum_c B A ca k w HK.out hB HKL.out (by omega)).mono ?_); rintro e w1 ⟨rfl, hb⟩; have HB1 := Lib.hid hb; clear hb)
    | (refine wpList_store_rowTo rfl 28 (.tmp 5) (.tmp 16) rfl rfl w1.heap.size (vb (sha k)) rfl rfl 28 zSum (by exact Blk.new _ _ _) HIK.out (by rw [vb_size, sha_len]; rfl) (vb_one _) ?_; obtain ⟨X1, hX1⟩ : ∃ X1, X1 = (w1.alloc (Obj.cells zSum 28)).setRow w1.heap.size (vb (sha k)) := ⟨_, rfl⟩; have h1x : Below w1.heap.size w1 X1 := (by rw [hX1]; exact ((Below.refl _ _).alloc (Nat.le_refl _) _).trans ⟨rfl, rfl, rfl, by simp [World.setRow], fun i hi => setRow_other _ _ i _ (by omega)⟩); have hbx : Blk X1 w1.heap.size 28 (vb (sha k)) := (by rw [hX1]; exact setRow_heap _ _ _ _ _ (0, 0) (Blk.new w1 _ _)); have HRX1 := Lib.hid (show Rd X1 X1.heap.size (some ⟨w1.heap.size, 0, none⟩) (byt (sha k)) from (rd_blk hbx _ 32 (by show byt _ = ((byt (sha k)).toArray.toList).take 32; rw [List.toList_toArray, List.take_of_length_le (by rw [byt_len, sha_len]; decide)])).more hbx.lt); have HBX1 := Lib.hid (HB1.out.trans (h1x.mono HB1.out.size)); rw [← hX1]; clear hX1 h1x hbx)
    | (at_builtin; refine wpList_app _ rfl (.tmp 17) (.tmp 18) _ rfl w.heap.size 5 i0 (.int .u8 0) 1 1 Tryd.underlying24 hi hz0 hz1 hz2 rfl (by decide) _ 0 [] rfl (by exact OwnB.new X1 _ [] HBX1.out.size (by simp [maxLen])) _ (some ⟨w1.heap.size, 0, none⟩) 32 32 (byt (sha k)) rfl (by simp [byt_len, sha_len]) (by exact HRX1.out.ext ((Below.refl _ _).alloc (Nat.le_refl _) _)) (byt_one _) (by decide) (by decide) (by have := HBX1.out.size; simp; omega) ?_; intro v2 X hap; have ho2 : OwnB X w.heap.size v2 (sha k) := (by have := hap.own; unfold OwnB; rw [sha_len]; simpa using this); have HX := Lib.hid (show Below w.heap.size w X from (HBX1.out.alloc HBX1.out.size _).trans (hap.below (by exact OwnB.new X1 _ [] HBX1.out.size (by simp [maxLen])) (by have := HBX1.out.size; simp; omega))); obtain ⟨AK, CK, rfl, _, _, r2⟩ := ho2.rd; have HKR' := Lib.hid r2; clear ho2 r2 hap))
  obtain ⟨kb, hkb⟩ : ∃ kb, kb = sha k := ⟨_, rfl⟩
  have hkb2 : keyB k = kb := by unfold keyB; rw [if_pos hlong, hkb]
  have HMAC := Lib.hid (show mac k m = sha (xr 92 (fill64 kb) ++ sha (xr 54 (fill64 kb) ++ m)) by unfold mac; rw [hkb2])
  have HK64 := Lib.hid (show kb.length ≤ 64 by rw [hkb, sha_len]; decide)
  have HKB := Lib.hid (show ∀ c ∈ kb, c < 256 by rw [hkb]; exact sha_lt k)
  have HKR := Lib.hid (show Rd X X.heap.size AK (byt kb) by rw [hkb]; exact HKR'.out)
  have BKle := Lib.hid (Nat.le_refl X.heap.size)
  rw [← hkb]
  clear hkb hkb2 HKR' HRX1 HBX1 HB1 HIK q1
  have HWX := Lib.hid HX.out.size
  have HFL := Lib.hid (fill64_len kb HK64.out)
  have HFB := Lib.hid (fill64_lt HKB.out)
  have HFA := Lib.hid (fun i (h : i < kb.length) => fill64_at kb i h)
  have HFN := Lib.hid (fun i (h : ¬ i < kb.length) => fill64_far kb i h)
  generalize fill64 kb = F at *
  go_loopw [6, 7, 8] (fun va vb' vi wr => ∃ i : Nat, i ≤ 64 ∧ vi = .int .i64 (i : Int) ∧ Own2 wr X.heap.size va (xr 92 (F.take i)) vb' (xr 54 (F.take i)) ∧ Below X.heap.size X wr) (fun _ _ vi _ => 64 - (intOf vi).toNat)
  case atStart => exact ⟨0, by omega, rfl, Own2.nil_ _ _, Below.refl _ _⟩
  case round =>
    rename World => wr
    obtain ⟨i, hi64, rfl, ho, hb⟩ := hrel
    have HO := Lib.hid ho
    have HB := Lib.hid hb
    clear ho hb
    by_cases hlt : i < 64
    · have hiF : i < F.length := by rw [HFL.out]; exact hlt
      have hf := getD_lt HFB.out i
      have HT92 := Lib.hid (xr_take_succ 92 F i hiF)
      have HT54 := Lib.hid (xr_take_succ 54 F i hiF)
      have HL92 := Lib.hid (show (xr 92 (F.take i)).length = i by rw [xr_len, List.length_take]; omega)
      have HL54 := Lib.hid (show (xr 54 (F.take i)).length = i by rw [xr_len, List.length_take]; omega)
      have x5 : bits BinOp.xor .u8 ((F.getD i 0 : Nat) : Int) 54 = ((F.getD i 0 ^^^ 54 : Nat) : Int) := u8_xor_nat (F.getD i 0) 54 hf (by decide)
      have x6 : bits BinOp.xor .u8 ((F.getD i 0 : Nat) : Int) 92 = ((F.getD i 0 ^^^ 92 : Nat) : Int) := u8_xor_nat (F.getD i 0) 92 hf (by decide)
      obtain ⟨A6, k6, rfl, _, _, _⟩ := HO.out.oa.rd
      obtain ⟨A7, k7, rfl, _, _, _⟩ := HO.out.ob.rd
      by_cases hik : i < kb.length
      · have hfa := HFA.out i hik
        rw [hfa] at x5 x6 HT92 HT54 hf
        obtain ⟨ad, eAD, hab, hc⟩ := HKR.out.byte hik
        subst eAD
        have q0 : wr.cell? (ad.add i) = some (.int .u8 (kb.getD i 0 : Nat)) := (HB.out.cell (p := ad.add i) (by rw [add_block]; exact Nat.lt_of_lt_of_le hab BKle.out)).trans hc
        clear hc hfa
        generalize kb.getD i 0 = f at *
        generalize f ^^^ 92 = f92 at *
        generalize f ^^^ 54 = f54 at *
        go_wp2_with (first
          | (at_builtin; refine wpList_app _ rfl (.tmp 32) (.tmp 35) _ rfl X.heap.size 5 i0 (.int .u8 0) 1 1 Tryd.underlying24 hi hz0 hz1 hz2 rfl (by decide) _ _ _ rfl (HO.out.alloc _).oa _ _ 1 1 [.int .u8 (f92 : Nat)] rfl rfl (by exact rd_one _ _ _) (byt_one [f92]) (by have := HL92.out; omega) (by have := HL92.out; omega) (by have := HB.out.size; simp; omega) ?_; intro v1 w1 hap; have HO1 := Lib.hid ((HO.out.alloc _).snoc hap); have HB1 := Lib.hid (show Below X.heap.size X w1 from (HB.out.alloc HB.out.size _).trans (hap.below (HO.out.alloc _).oa (by have := HB.out.size; simp; omega))); clear hap)
          | (at_builtin; refine wpList_app _ rfl (.tmp 37) (.tmp 40) _ rfl X.heap.size 5 i0 (.int .u8 0) 1 1 Tryd.underlying24 hi hz0 hz1 hz2 rfl (by decide) _ _ _ rfl (HO1.out.rot.alloc _).oa _ _ 1 1 [.int .u8 (f54 : Nat)] rfl rfl (by exact rd_one _ _ _) (byt_one [f54]) (by have := HL54.out; omega) (by have := HL54.out; omega) (by have := HB1.out.size; simp; omega) ?_; intro v2 w2 hap; have HO2 := Lib.hid ((HO1.out.rot.alloc _).snoc hap).rot; have HB2 := Lib.hid (show Below X.heap.size X w2 from (HB1.out.alloc HB1.out.size _).trans (hap.below (HO1.out.rot.alloc _).oa (by have := HB1.out.size; simp; omega))); clear hap))
        refine ⟨⟨i + 1, by omega, by congr 1, by rw [HT92.out, HT54.out]; exact HO2.out, HB2.out⟩, ?_⟩
        simp only [intOf]; omega
      · have hfa := HFN.out i hik
        rw [hfa] at x5 x6 HT92 HT54 hf
        clear hfa
        have x5' : bits BinOp.xor .u8 0 54 = ((0 ^^^ 54 : Nat) : Int) := x5
        have x6' : bits BinOp.xor .u8 0 92 = ((0 ^^^ 92 : Nat) : Int) := x6
        clear x5 x6
        generalize (0 ^^^ 92 : Nat) = f92 at *
        generalize (0 ^^^ 54 : Nat) = f54 at *
        go_wp2_with (first
          | (at_builtin; refine wpList_app _ rfl (.tmp 32) (.tmp 35) _ rfl X.heap.size 5 i0 (.int .u8 0) 1 1 Tryd.underlying24 hi hz0 hz1 hz2 rfl (by decide) _ _ _ rfl (HO.out.alloc _).oa _ _ 1 1 [.int .u8 (f92 : Nat)] rfl rfl (by exact rd_one _ _ _) (byt_one [f92]) (by have := HL92.out; omega) (by have := HL92.out; omega) (by have := HB.out.size; simp; omega) ?_; intro v1 w1 hap; have HO1 := Lib.hid ((HO.out.alloc _).snoc hap); have HB1 := Lib.hid (show Below X.heap.size X w1 from (HB.out.alloc HB.out.size _).trans (hap.below (HO.out.alloc _).oa (by have := HB.out.size; simp; omega))); clear hap)
          | (at_builtin; refine wpList_app _ rfl (.tmp 37) (.tmp 40) _ rfl X.heap.size 5 i0 (.int .u8 0) 1 1 Tryd.underlying24 hi hz0 hz1 hz2 rfl (by decide) _ _ _ rfl (HO1.out.rot.alloc _).oa _ _ 1 1 [.int .u8 (f54 : Nat)] rfl rfl (by exact rd_one _ _ _) (byt_one [f54]) (by have := HL54.out; omega) (by have := HL54.out; omega) (by have := HB1.out.size; simp; omega) ?_; intro v2 w2 hap; have HO2 := Lib.hid ((HO1.out.rot.alloc _).snoc hap).rot; have HB2 := Lib.hid (show Below X.heap.size X w2 from (HB1.out.alloc HB1.out.size _).trans (hap.below (HO1.out.rot.alloc _).oa (by have := HB1.out.size; simp; omega))); clear hap))
        refine ⟨⟨i + 1, by omega, by congr 1, by rw [HT92.out, HT54.out]; exact HO2.out, HB2.out⟩, ?_⟩
        simp only [intOf]; omega
    · obtain rfl : i = 64 := by omega
      have ho := HO.out
      rw [List.take_of_length_le (by rw [HFL.out]; decide)] at ho
      have HIb := Lib.hid (xr_lt (by decide : 54 < 256) HFB.out)
      have HOb := Lib.hid (xr_lt (by decide : 92 < 256) HFB.out)
      have HIL := Lib.hid (show (xr 54 F).length = 64 by rw [xr_len, HFL.out])
      have HOL := Lib.hid (show (xr 92 F).length = 64 by rw [xr_len, HFL.out])
      clear HO HFB HFL HFA HFN HKR HKB HK64 BKle
      generalize xr 54 F = I at *
      generalize xr 92 F = O at *
      have HO := Lib.hid ho
      clear ho
      have HMW := Lib.hid (show Rd wr C D (byt m) from (HM.out.below (HX.out.mono hC)).below (HB.out.mono (Nat.le_trans hC HX.out.size)))
      have HXW := Lib.hid (show Below w.heap.size w wr from HX.out.trans (HB.out.mono HX.out.size))
      have HBX := Lib.hid (show X.heap.size ≤ wr.heap.size from HB.out.size)
      obtain ⟨J, hJ⟩ : ∃ J, J = I ++ m := ⟨_, rfl⟩
      obtain ⟨S1, hS1⟩ : ∃ S1, S1 = sha J := ⟨_, rfl⟩
      obtain ⟨P, hP⟩ : ∃ P, P = O ++ S1 := ⟨_, rfl⟩
      obtain ⟨M, hM⟩ : ∃ M, M = mac k m := ⟨_, rfl⟩
      have HJ := Lib.hid hJ
      have HP := Lib.hid hP
      have HM2 := Lib.hid hM
      have HS1 := Lib.hid hS1.symm
      have HMS := Lib.hid (show sha P = M by rw [hM, HMAC.out, hP, hS1, hJ])
      have HSN := Lib.hid (show S1.length = 32 by rw [hS1, sha_len])
      have HMNN := Lib.hid (show M.length = 32 by rw [hM, mac_len])
      have HSLT := Lib.hid (show ∀ c ∈ S1, c < 256 by rw [hS1]; exact sha_lt _)
      clear hJ hS1 hP hM HMAC
      have HSI := Lib.hid (show (Tryd.prog.info? 28).map (·.size) = some (vb S1).size by rw [vb_size, HSN.out]; kernel_rfl)
      have HSM := Lib.hid (show (Tryd.prog.info? 28).map (·.size) = some (vb M).size by rw [vb_size, HMNN.out]; kernel_rfl)
      have HIM := Lib.hid (show ∀ c ∈ J, c < 256 from fun c hc => by
        rw [HJ.out] at hc
        rcases List.mem_append.1 hc with h | h
        · exact HIb.out c h
        · exact HML.out c h)
      have HIN := Lib.hid (show J.length ≤ 10000 by rw [HJ.out, List.length_append, HIL.out]; have := HMN.out; omega)
      have HOM := Lib.hid (show ∀ c ∈ P, c < 256 from fun c hc => by
        rw [HP.out] at hc
        rcases List.mem_append.1 hc with h | h
        · exact HOb.out c h
        · exact HSLT.out c h)
      have HON := Lib.hid (show P.length ≤ 10000 by rw [HP.out, List.length_append, HOL.out, HSN.out]; decide)
      clear HM HB HX hB hC
      obtain ⟨A6, k6, rfl, _, _, _⟩ := HO.out.oa.rd
      obtain ⟨A7, k7, rfl, _, _, _⟩ := HO.out.ob.rd
      go_upto_region 14 with (first
        | (at_builtin; refine wpList_app _ rfl (.tmp 42) (.tmp 43) _ rfl X.heap.size 5 i0 (.int .u8 0) 1 1 Tryd.underlying24 hi hz0 hz1 hz2 rfl (by decide) _ _ _ rfl HO.out.rot.oa C D m.length cb (byt m) rfl (by simp [byt_len]) HMW.out (byt_one m) (by rw [HIL.out]; have := HMN.out; omega) (by rw [HIL.out]; have := HMN.out; omega) HBX.out ?_; intro v3 w3 hap; have ho3 := (HO.out.rot.app hap).rot; rw [← HJ.out] at ho3; have HB3 := Lib.hid (hap.below HO.out.rot.oa HBX.out); obtain ⟨A3, k3, rfl, _, _, r3⟩ := ho3.ob.rd; have HR3 := Lib.hid r3; have HO3 := Lib.hid ho3; clear ho3 r3 hap)
        | (go_at_call 37; (refine (rsum_c w3.heap.size A3 k3 J w3 HR3.out (Nat.le_refl _) HIM.out HIN.out).mono ?_); rw [HS1.out]; rintro e w4 ⟨rfl, hb⟩; have HO4 := Lib.hid (HO3.out.keep hb); have HB4 := Lib.hid (HB3.out.trans (hb.mono (Nat.le_trans HBX.out HB3.out.size))); clear hb)
        | (refine wpList_store_rowTo rfl 28 (.tmp 10) (.tmp 45) rfl rfl w4.heap.size (vb S1) rfl rfl 28 zSum (by exact Blk.new _ _ _) HSI.out (by rw [vb_size, HSN.out]; rfl) (vb_one _) ?_; obtain ⟨Y, hY⟩ : ∃ Y, Y = (w4.alloc (Obj.cells zSum 28)).setRow w4.heap.size (vb S1) := ⟨_, rfl⟩; have h4y : Below w4.heap.size w4 Y := (by rw [hY]; exact ((Below.refl _ _).alloc (Nat.le_refl _) _).trans ⟨rfl, rfl, rfl, by simp [World.setRow], fun i hi => setRow_other _ _ i _ (by omega)⟩); have hby : Blk Y w4.heap.size 28 (vb S1) := (by rw [hY]; exact setRow_heap _ _ _ _ _ (0, 0) (Blk.new w4 _ _)); have HRY := Lib.hid (show Rd Y Y.heap.size (some ⟨w4.heap.size, 0, none⟩) (byt S1) from (rd_blk hby _ 32 (by show byt _ = ((byt S1).toArray.toList).take 32; rw [List.toList_toArray, List.take_of_length_le (by rw [byt_len, HSN.out]; decide)])).more hby.lt); have HOY := Lib.hid (HO4.out.keep h4y); have HBY := Lib.hid (HB4.out.trans (h4y.mono (Nat.le_trans HBX.out HB4.out.size))); rw [← hY]; clear hY h4y hby))
      go_upto_region 15 with (first
        | (at_builtin; refine wpList_app _ rfl (.tmp 46) (.tmp 47) _ rfl X.heap.size 5 i0 (.int .u8 0) 1 1 Tryd.underlying24 hi hz0 hz1 hz2 rfl (by decide) _ _ _ rfl HOY.out.oa _ (some ⟨w4.heap.size, 0, none⟩) 32 32 (byt S1) rfl (by simp [byt_len, HSN.out]) HRY.out (byt_one _) (by rw [HOL.out]; decide) (by rw [HOL.out]; decide) (Nat.le_trans HBX.out HBY.out.size) ?_; intro v5 w5 hap; have ho5 : OwnB w5 X.heap.size v5 P := (by rw [HP.out]; exact OwnB.app (by rw [HSN.out]; exact hap)); have HB5 := Lib.hid (HBY.out.trans (hap.below HOY.out.oa (Nat.le_trans HBX.out HBY.out.size))); obtain ⟨A5, k5, rfl, _, _, r5⟩ := ho5.rd; have HR5 := Lib.hid r5; clear ho5 r5 hap)
        | (go_at_call 37; (refine (rsum_c w5.heap.size A5 k5 P w5 HR5.out (Nat.le_refl _) HOM.out HON.out).mono ?_); rw [HMS.out]; rintro e w6 ⟨rfl, hb⟩; have HB6 := Lib.hid (HB5.out.trans (hb.mono (Nat.le_trans HBX.out HB5.out.size))); clear hb)
        | (refine wpList_store_rowTo rfl 28 (.tmp 11) (.tmp 49) rfl rfl w6.heap.size (vb M) rfl rfl 28 zSum (by exact Blk.new _ _ _) HSM.out (by rw [vb_size, HMNN.out]; rfl) (vb_one _) ?_; obtain ⟨V, hV⟩ : ∃ V, V = (w6.alloc (Obj.cells zSum 28)).setRow w6.heap.size (vb M) := ⟨_, rfl⟩; have h6v : Below w6.heap.size w6 V := (by rw [hV]; exact ((Below.refl _ _).alloc (Nat.le_refl _) _).trans ⟨rfl, rfl, rfl, by simp [World.setRow], fun i hi => setRow_other _ _ i _ (by omega)⟩); have hbv : Blk V w6.heap.size 28 (vb M) := (by rw [hV]; exact setRow_heap _ _ _ _ _ (0, 0) (Blk.new w6 _ _)); have HRV := Lib.hid (show Rd V V.heap.size (some ⟨w6.heap.size, 0, none⟩) (byt M) from (rd_blk hbv _ 32 (by show byt _ = ((byt M).toArray.toList).take 32; rw [List.toList_toArray, List.take_of_length_le (by rw [byt_len, HMNN.out]; decide)])).more hbv.lt); have HBV := Lib.hid (HB6.out.trans (h6v.mono (Nat.le_trans HBX.out HB6.out.size))); rw [← hV]; clear hV h6v hbv))
      go_wp2_with ((at_builtin; refine wpList_app _ rfl (.tmp 50) (.tmp 51) _ rfl V.heap.size 5 i0 (.int .u8 0) 1 1 Tryd.underlying24 hi hz0 hz1 hz2 rfl (by decide) _ 0 [] rfl (by exact OwnB.new V _ [] (Nat.le_refl _) (by simp [maxLen])) _ (some ⟨w6.heap.size, 0, none⟩) 32 32 (byt M) rfl (by simp [byt_len, HMNN.out]) (by exact HRV.out.ext ((Below.refl _ _).alloc (Nat.le_refl _) _)) (byt_one _) (by decide) (by decide) (by simp) ?_; intro v7 w7 hap; have HO7 := Lib.hid (show OwnB w7 V.heap.size v7 M from (by have := hap.own; unfold OwnB; rw [HMNN.out]; simpa using this)); have HB7 := Lib.hid (show Below V.heap.size V w7 from ((Below.refl _ _).alloc (Nat.le_refl _) _).trans (hap.below (by exact OwnB.new V _ [] (Nat.le_refl _) (by simp [maxLen])) (by simp))); clear hap))
      go_ret
      rw [← HM2.out]
      have hxv : X.heap.size ≤ V.heap.size := Nat.le_trans HBX.out HBV.out.size
      have hwx : w.heap.size ≤ X.heap.size := HWX.out
      exact ⟨_, rfl, own_base_le HO7.out (Nat.le_trans hwx hxv), (HXW.out.trans (HBV.out.mono hwx)).trans (HB7.out.mono (Nat.le_trans hwx hxv))⟩
theorem rmac_c (B C : Nat) (A D : Option Addr) (ca cb : Nat) (k m : List Nat) (w : World) (hk : Rd w B A (byt k)) (hm : Rd w C D (byt m)) (hB : B ≤ w.heap.size) (hC : C ≤ w.heap.size) (hkl : ∀ c ∈ k, c < 256) (hml : ∀ c ∈ m, c < 256) (hkn : k.length ≤ 8000) (hmn : m.length ≤ 8000) :
    Calls Tryd.prog 28 #[.slice A k.length ca, .slice D m.length cb] w fun e w' => ∃ v, e = .returned v ∧ OwnB w' w.heap.size v (mac k m) ∧ Below w.heap.size w w' := by
  by_cases h : 64 < k.length
  · exact rmacL_c B C A D ca cb k m w hk hm hB hC hkl hml hkn hmn h
  · exact rmacS_c B C A D ca cb k m w hk hm hB hC hkl hml hkn hmn h
end Go.Proofs.YtdbfikcpaionbaaDoor
namespace Go.Proofs.YtdbfikcpaionbaaDoor
open Go.RowKit
set_option linter.unusedVariables false
set_option linter.unusedSimpArgs false
def keyL : List Nat := [107, 101, 121]
def foxL : List Nat := [84, 104, 101, 32, 113, 117, 105, 99, 107, 32, 98, 114, 111, 119, 110, 32, 102, 111, 120, 32, 106, 117, 109, 112, 115, 32, 111, 118, 101, 114, 32, 116, 104, 101, 32, 108, 97, 122, 121, 32, 100, 111, 103]
def foxM : List Nat := [247, 188, 131, 244, 48, 83, 132, 36, 177, 50, 152, 230, 170, 111, 177, 67, 239, 77, 89, 161, 73, 70, 23, 89, 151, 71, 157, 188, 45, 26, 60, 216]
end Go.Proofs.YtdbfikcpaionbaaDoor
namespace Go.Proofs.YtdbfikcpaionbaaDoor
open Go.RowKit
set_option linter.unusedVariables false
set_option linter.unusedSimpArgs false
theorem below_row {n g : Nat} {w W : World} (h : Below n w W) (hn : n ≤ g) (cs : Array Value) : Below n w (W.setRow g cs) :=
  h.trans ⟨rfl, rfl, rfl, by simp [World.setRow], fun i hi => setRow_other _ _ i _ (by omega)⟩
end Go.Proofs.YtdbfikcpaionbaaDoor
/- Contracts: the proof of a master key, by the code, by the document, by the law. -/
namespace Go.Proofs.YtdbfikcpaionbaaDoor
open Go.RowKit
set_option linter.unusedVariables false
set_option linter.unusedSimpArgs false
def prf : List Nat := [112, 114, 111, 111, 102]
def prC : Array Value := #[.int .u8 112, .int .u8 114, .int .u8 111, .int .u8 111, .int .u8 102]
def prfL (k : List Nat) : List Nat := mac k prf
theorem prfL_len (k : List Nat) : (prfL k).length = 32 := mac_len _ _
theorem prfL_lt (k : List Nat) : ∀ c ∈ prfL k, c < 256 := mac_lt _ _
theorem kcv (w : World) (C : Array Value) (n c : Nat) : (convert 24 24 (.slice (some ⟨w.heap.size, 0, none⟩) n c)).run Tryd.prog (w.alloc (.cells C 5)) = .ok (.slice (some ⟨w.heap.size, 0, none⟩) n c) (w.alloc (.cells C 5 (C.size, C.size + 1))) :=
  Lib.run_convert_bytes_const (P := Tryd.prog) w 24 5 C n c Tryd.underlying24 Tryd.underlying5
theorem sum_sz {l : List Nat} (h : l.length = 32) : (Tryd.prog.info? 28).map (·.size) = some (vb l).size := by rw [vb_size, h]; kernel_rfl
theorem rd_prf (W : World) : Rd (W.alloc (.cells prC 5 (5, 6))) (W.heap.size + 1) (some ⟨W.heap.size, 0, none⟩) (byt prf) := rd_new W (byt prf) 5 (5, 6)
set_option maxRecDepth 100000 in
set_option maxHeartbeats 2000000 in
theorem kproof_c (k : List Nat) (w : World) (hk : k.length = 32) (hkl : ∀ c ∈ k, c < 256) (hR : RoundsAt w) :
    Calls Tryd.prog 13 #[.agg (vb k)] w fun e w' => e = .returned (.agg (vb (prfL k))) ∧ Below w.heap.size w w' := by
  have zf := zero_sum
  have zs1 : zSum.size = 32 := by rfl
  have zs2 : ¬ zSum = #[] := by intro h; have := congrArg Array.size h; rw [zs1] at this; cases this
  have HSM := Lib.hid (sum_sz (prfL_len k))
  have HB0 := Lib.hid (show Blk (w.alloc (Obj.cells (vb k) 23)) w.heap.size 23 (vb k) from Blk.new w _ _)
  have HKL := Lib.hid hkl
  have HRO := Lib.hid hR
  have ek := fun (W : World) => kcv W prC 5 5
  have ep : (#[.int .u8 112, .int .u8 114, .int .u8 111, .int .u8 111, .int .u8 102] : Array Value) = prC := rfl
  clear hkl hR
  go_enter Tryd.func13, Tryd.ntmps13
  go_upto_region 1 with (refine Go.Great.wpList_boxTo rfl 23 (.tmp 0) rfl (some 1) rfl w.heap.size rfl (vb k) rfl ?_)
  have hz1 : Blk ((w.alloc (Obj.cells (vb k) 23)).alloc (Obj.cells zSum 28)) w.heap.size 23 (vb k) := (Blk.new w _ _).alloc _
  have hz2 : Blk ((w.alloc (Obj.cells (vb k) 23)).alloc (Obj.cells zSum 28)) (w.heap.size + 1) 28 zSum := by
    have h := Blk.new (w.alloc (Obj.cells (vb k) 23)) 28 zSum
    simpa using h
  have hzb : Below w.heap.size w ((w.alloc (Obj.cells (vb k) 23)).alloc (Obj.cells zSum 28)) := ((Below.refl _ _).alloc (Nat.le_refl _) _).alloc (by simp) _
  generalize (w.alloc (Obj.cells (vb k) 23)).alloc (Obj.cells zSum 28) = Z at *
  have HZ1 := Lib.hid hz1
  have HZ2 := Lib.hid hz2
  have HZB := Lib.hid hzb
  have hb2 : Below Z.heap.size Z (Z.alloc (.cells prC 5 (5, 6))) := (Below.refl _ _).alloc (Nat.le_refl _) _
  have HMC := Lib.hid (mac_c (w.heap.size + 1) (Z.heap.size + 1) (some ⟨w.heap.size, 0, none⟩) (some ⟨Z.heap.size, 0, none⟩) 32 5 k prf (Z.alloc (.cells prC 5 (5, 6))) (rd_blk (hz1.below hb2 hz1.lt) (byt k) k.length (by show byt k = (byt k).take k.length; rw [List.take_of_length_le (by rw [byt_len]; exact Nat.le_refl _)])) (rd_prf Z) (Nat.le_trans (by have := hz2.lt; omega) hb2.size) (by simp) HKL.out (by decide) (by omega) (by decide) (HRO.out.next (hzb.trans (hb2.mono hzb.size))))
  rw [hk] at HMC
  have HMC2 := Lib.hid (show Calls Tryd.prog 25 #[.slice (some ⟨w.heap.size, 0, none⟩) 32 32, .slice (some ⟨Z.heap.size, 0, none⟩) 5 5] (Z.alloc (.cells prC 5 (5, 6))) fun e w' => e = .returned (.agg (vb (prfL k))) ∧ Below (Z.alloc (.cells prC 5 (5, 6))).heap.size (Z.alloc (.cells prC 5 (5, 6))) w' from HMC.out)
  have HB2 := Lib.hid hb2
  clear HMC hb2 hz1 hz2 hzb HB0
  go_wp2_with (first
    | (go_at_call 25; (refine HMC2.out.mono ?_); rintro e w1 ⟨rfl, hb⟩; have HB1 := Lib.hid (HB2.out.trans (hb.mono HB2.out.size)); have HZ3 := Lib.hid (HZ2.out.below HB1.out HZ2.out.lt); clear hb)
    | (refine wpList_store_rowTo rfl 28 (.tmp 2) (.tmp 6) rfl rfl (w.heap.size + 1) (vb (prfL k)) rfl rfl 28 zSum HZ3.out HSM.out (by rw [vb_size, prfL_len]; rfl) (vb_one _) ?_))
  first
    | rw [Exit.noGoto_ret]
    | skip
  refine bodyPost_ret (results_cell_row rfl _ _ (w.heap.size + 1) 28 (vb (prfL k)) (0, 0) _ rfl (setRow_heap _ _ zSum _ 28 (0, 0) HZ3.out) Tryd.underlying28 rfl HSM.out) rfl ?_
  exact ⟨rfl, (HZB.out.trans (HB1.out.mono HZB.out.size)).trans ⟨rfl, rfl, rfl, by simp [World.setRow], fun i hi => setRow_other _ _ i _ (by omega)⟩⟩
set_option maxRecDepth 100000 in
set_option maxHeartbeats 2000000 in
theorem rproof_c (k : List Nat) (w : World) (hk : k.length = 32) (hkl : ∀ c ∈ k, c < 256) :
    Calls Tryd.prog 18 #[.agg (vb k)] w fun e w' => ∃ v, e = .returned v ∧ OwnB w' w.heap.size v (prfL k) ∧ Below w.heap.size w w' := by
  have HKL := Lib.hid hkl
  have ek := fun (W : World) => kcv W prC 5 5
  have ep : (#[.int .u8 112, .int .u8 114, .int .u8 111, .int .u8 111, .int .u8 102] : Array Value) = prC := rfl
  clear hkl
  go_enter Tryd.func18, Tryd.ntmps18
  go_upto_region 1 with (refine Go.Great.wpList_boxTo rfl 22 (.tmp 0) rfl (some 1) rfl w.heap.size rfl (vb k) rfl ?_)
  have hz1 : Blk (w.alloc (Obj.cells (vb k) 22)) w.heap.size 22 (vb k) := Blk.new w _ _
  have hzb : Below w.heap.size w (w.alloc (Obj.cells (vb k) 22)) := (Below.refl _ _).alloc (Nat.le_refl _) _
  generalize w.alloc (Obj.cells (vb k) 22) = Z at *
  obtain ⟨i0, hi0, hz0, hzs1, hzs2⟩ := info_parts byteInfo
  have HI := Lib.hid (And.intro hi0 (And.intro hz0 (And.intro hzs1 hzs2)))
  have hb2 : Below Z.heap.size Z (Z.alloc (.cells #[] 5)) := (Below.refl _ _).alloc (Nat.le_refl _) _
  have HO := Lib.hid (show (Z.alloc (.cells #[] 5)).ownsRow w.heap.size 5 1 (.slice (some ⟨Z.heap.size, 0, none⟩) 0 0) 0 [] from OwnB.new Z w.heap.size [] hzb.size (by decide))
  have HRD := Lib.hid (show Rd (Z.alloc (.cells #[] 5)) (w.heap.size + 1) (some ⟨w.heap.size, 0, none⟩) (byt k) from rd_blk (hz1.below hb2 hz1.lt) (byt k) k.length (by show byt k = (byt k).take k.length; rw [List.take_of_length_le (by rw [byt_len]; exact Nat.le_refl _)]))
  have HB2 := Lib.hid (hzb.trans (hb2.mono hzb.size))
  have HMC := Lib.hid (fun W A D ca cb (h1 : Rd W W.heap.size A (byt k)) (h2 : Rd W W.heap.size D (byt prf)) => rmac_c W.heap.size W.heap.size A D ca cb k prf W h1 h2 (Nat.le_refl _) (Nat.le_refl _) HKL.out (by decide) (by omega) (by decide))
  rw [hk] at HMC
  clear hi0 hz0 hzs1 hzs2 hz1 hzb hb2
  go_wp2_with (first
    | (at_builtin; go_loud (refine wpList_app _ rfl (.tmp 3) (.tmp 4) _ rfl w.heap.size 5 i0 (.int .u8 0) 1 1 Tryd.underlying24 HI.out.1 HI.out.2.1 HI.out.2.2.1 HI.out.2.2.2 rfl (by decide) (.slice (some ⟨Z.heap.size, 0, none⟩) 0 0) 0 [] rfl HO.out _ _ 32 32 (byt k) rfl (by rw [byt_len, hk]) HRD.out (byt_one _) (by omega) (by omega) HB2.out.size ?_; intro v1 W1 hap; have hb3 := hap.below HO.out HB2.out.size; have ho1 := OwnB.app (l := []) (m := k) (by rw [hk]; exact hap); obtain ⟨A1, c1, rfl, _, _, r1⟩ := ho1.rd; rw [List.nil_append, hk]; have HR1 := Lib.hid (show Rd (W1.alloc (.cells prC 5 (5, 6))) (W1.alloc (.cells prC 5 (5, 6))).heap.size A1 (byt k) from Rd.more (Rd.below r1 ((Below.refl _ _).alloc (Nat.le_refl _) _)) (by simp)); have HB3 := Lib.hid ((HB2.out.trans hb3).alloc (HB2.out.trans hb3).size (.cells prC 5 (5, 6))); have HR2 := Lib.hid (Rd.more (rd_prf W1) (show W1.heap.size + 1 ≤ (W1.alloc (.cells prC 5 (5, 6))).heap.size by simp)); clear hap hb3 ho1 r1))
    | (go_at_call 28; (refine (HMC.out _ _ _ _ 5 HR1.out HR2.out).mono ?_); rintro e W2 ⟨v2, rfl, ho2, hb4⟩; have HO2 := Lib.hid ho2; have HB4 := Lib.hid hb4; clear ho2 hb4))
  go_ret
  exact ⟨_, rfl, own_base_le HO2.out HB3.out.size, HB3.out.trans (HB4.out.mono HB3.out.size)⟩
set_option maxRecDepth 100000 in
set_option maxHeartbeats 2000000 in
theorem lproof_c (k : List Nat) (w : World) (hk : k.length = 32) (hkl : ∀ c ∈ k, c < 256) :
    Calls Tryd.prog 8 #[.agg (vb k)] w fun e w' => e = .returned (.agg (vb (prfL k))) ∧ Below w.heap.size w w' := by
  have HKL := Lib.hid hkl
  have zf := zero_sum
  have zs1 : zSum.size = 32 := by rfl
  have zs2 : ¬ zSum = #[] := by intro h; have := congrArg Array.size h; rw [zs1] at this; cases this
  have HSM := Lib.hid (sum_sz (prfL_len k))
  have HSN := Lib.hid (show (Tryd.prog.info? 28).map (·.size) = some (byt (prfL k)).length by rw [byt_len, prfL_len]; kernel_rfl)
  have HKS := Lib.hid (show (Tryd.prog.info? 23).map (·.size) = some (vb k).size by rw [vb_size, hk]; kernel_rfl)
  have HPL := Lib.hid (prfL_len k)
  have HRP := Lib.hid (fun W => rproof_c k W hk HKL.out)
  clear hkl
  go_enter Tryd.func8, Tryd.ntmps8
  go_upto_region 1 with (refine Go.Great.wpList_boxTo rfl 23 (.tmp 0) rfl (some 1) rfl w.heap.size rfl (vb k) rfl ?_)
  have hz1 : Blk ((w.alloc (Obj.cells (vb k) 23)).alloc (Obj.cells zSum 28)) w.heap.size 23 (vb k) := (Blk.new w _ _).alloc _
  have hz2 : Blk ((w.alloc (Obj.cells (vb k) 23)).alloc (Obj.cells zSum 28)) (w.heap.size + 1) 28 zSum := by
    have h := Blk.new (w.alloc (Obj.cells (vb k) 23)) 28 zSum
    simpa using h
  have hzb : Below w.heap.size w ((w.alloc (Obj.cells (vb k) 23)).alloc (Obj.cells zSum 28)) := ((Below.refl _ _).alloc (Nat.le_refl _) _).alloc (by simp) _
  generalize (w.alloc (Obj.cells (vb k) 23)).alloc (Obj.cells zSum 28) = Z at *
  have HZ1 := Lib.hid hz1
  have HZ2 := Lib.hid hz2
  have HZB := Lib.hid hzb
  clear hz1 hz2 hzb
  have hAA := fun (ad : Addr) (c1 : Nat) W => run_arrayAt (P := Tryd.prog) (w := W) 28 5 32 (some ad) 32 c1 Tryd.underlying28 (Nat.le_refl _)
  go_wp2_with (first
    | (refine wpList_load_row rfl 23 (.tmp 1) rfl w.heap.size rfl 23 (vb k) (0, 0) _ HZ1.out Tryd.underlying23 rfl HKS.out ?_)
    | (go_at_call 18; (refine (HRP.out Z).mono ?_); rintro e W1 ⟨v1, rfl, ho1, hb1⟩; obtain ⟨A1, c1, rfl, hc1, hm1, r1⟩ := ho1.rd; have HP := HPL.out; rw [HP] at hc1 ⊢; obtain ⟨ad, rfl, _, hat⟩ := r1 (fun h0 => by have h := byt_len (prfL k); rw [h0, HP] at h; simp at h); have HAT := Lib.hid (show AtA W1 ad (byt (prfL k)) from hat); have HB1 := Lib.hid (HZB.out.trans (hb1.mono HZB.out.size)); have HZ3 := Lib.hid (HZ2.out.below hb1 HZ2.out.lt); clear hb1 ho1 r1 hat)
    | (refine wpList_load_at rfl 28 (.tmp 5) rfl ad rfl (prfL k) _ HAT.out Tryd.underlying28 rfl HSN.out ?_)
    | (refine wpList_store_rowTo rfl 28 (.tmp 2) (.tmp 6) rfl rfl (w.heap.size + 1) (vb (prfL k)) rfl rfl 28 zSum HZ3.out HSM.out (by rw [vb_size, HPL.out]; rfl) (vb_one _) ?_))
  first
    | rw [Exit.noGoto_ret]
    | skip
  refine bodyPost_ret (results_cell_row rfl _ _ (w.heap.size + 1) 28 (vb (prfL k)) (0, 0) _ rfl (setRow_heap _ _ zSum _ 28 (0, 0) HZ3.out) Tryd.underlying28 rfl HSM.out) rfl ?_
  exact ⟨rfl, HB1.out.trans ⟨rfl, rfl, rfl, by simp [World.setRow], fun i hi => setRow_other _ _ i _ (by omega)⟩⟩
end Go.Proofs.YtdbfikcpaionbaaDoor
/- Plain: a keeper's state. -/
namespace Go.Proofs.YtdbfikcpaionbaaDoor
open Go.RowKit
set_option linter.unusedVariables false
set_option linter.unusedSimpArgs false
theorem shX_ins {L s : List Nat} {n i : Nat} (hL : L.length = n * 33) (hs : s.length = 33) (hi : i ≤ n) (j : Nat) : shX (insL L i s) j = if j < i then shX L j else if j = i then s.getD 0 0 else shX L (j - 1) := by
  have hl1 : (L.take (i * 33)).length = i * 33 := by rw [List.length_take, hL]; omega
  unfold shX insL
  simp only [List.getD_eq_getElem?_getD]
  rcases Nat.lt_trichotomy j i with h | h | h
  · rw [if_pos h, List.append_assoc, List.getElem?_append_left (by omega), List.getElem?_take_of_lt (by omega)]
  · subst h
    rw [if_neg (Nat.lt_irrefl _), if_pos rfl, List.append_assoc, List.getElem?_append_right (by omega), hl1, Nat.sub_self, List.getElem?_append_left (by omega)]
  · rw [if_neg (by omega), if_neg (by omega), List.getElem?_append_right (by rw [List.length_append]; omega), List.length_append, hl1, hs, List.getElem?_drop]
    congr 2
    omega
/-- places rise, none is 0 -/
structure Rise (L : List Nat) (n : Nat) : Prop where
  len : L.length = n * 33
  lt : ∀ c ∈ L, c < 256
  up : ∀ i j, i < j → j < n → shX L i < shX L j
  nz : ∀ i, i < n → shX L i ≠ 0
def posX (L : List Nat) (x : Nat) : Nat → Nat
  | 0 => 0
  | n + 1 => if shX L n < x then n + 1 else posX L x n
def hasV (L : List Nat) (x : Nat) : Nat → Bool
  | 0 => false
  | n + 1 => hasV L x n || (shX L n == x)
theorem posX_le (L : List Nat) (x n : Nat) : posX L x n ≤ n := by
  induction n with
  | zero => exact Nat.le_refl _
  | succ n ih => unfold posX; split <;> omega
theorem hasV_iff (L : List Nat) (x n : Nat) : hasV L x n = true ↔ ∃ j, j < n ∧ shX L j = x := by
  induction n with
  | zero => simp [hasV]
  | succ n ih =>
    rw [hasV, Bool.or_eq_true, ih, beq_iff_eq]
    constructor
    · rintro (⟨j, h1, h2⟩ | h)
      · exact ⟨j, by omega, h2⟩
      · exact ⟨n, by omega, h⟩
    · rintro ⟨j, h1, h2⟩
      rcases Nat.lt_or_ge j n with h | h
      · exact .inl ⟨j, h, h2⟩
      · obtain rfl : j = n := by omega
        exact .inr h2
theorem spa_posX {L : List Nat} {x : Nat} : ∀ n, (∀ i j, i < j → j < n → shX L i < shX L j) → SpA L n x (posX L x n)
  | 0, _ => ⟨Nat.le_refl _, fun t h => absurd h (Nat.not_lt_zero _), fun t _ h => absurd h (Nat.not_lt_zero _)⟩
  | n + 1, hup => by
    unfold posX
    split
    · rename_i h
      refine ⟨Nat.le_refl _, fun t ht => ?_, fun t h1 h2 => by omega⟩
      rcases Nat.lt_or_ge t n with h1 | h1
      · exact Nat.lt_trans (hup t n h1 (by omega)) h
      · obtain rfl : t = n := by omega
        exact h
    · rename_i h
      obtain ⟨a, b, c⟩ := spa_posX n (fun i j h1 h2 => hup i j h1 (by omega)) (x := x)
      refine ⟨by omega, b, fun t h1 h2 => ?_⟩
      rcases Nat.lt_or_ge t n with h3 | h3
      · exact c t h1 h3
      · obtain rfl : t = n := by omega
        omega
theorem there_is {L : List Nat} {x n k : Nat} (h : SpA L n x k) (hup : ∀ i j, i < j → j < n → shX L i < shX L j) : (decide (k < n) && decide (shX L k = x)) = hasV L x n := by
  rw [Bool.eq_iff_iff, hasV_iff, Bool.and_eq_true, decide_eq_true_eq, decide_eq_true_eq]
  constructor
  · rintro ⟨h1, h2⟩; exact ⟨k, h1, h2⟩
  · rintro ⟨j, h1, h2⟩
    have hj : ¬ j < k := fun h3 => by have := h.2.1 j h3; omega
    have hkn : k < n := by omega
    refine ⟨hkn, ?_⟩
    have h3 := h.2.2 k (Nat.le_refl _) hkn
    rcases Nat.lt_or_ge k j with h4 | h4
    · have := hup k j h4 h1; omega
    · obtain rfl : k = j := by omega
      exact h2
theorem Rise.nil_ : Rise [] 0 := ⟨rfl, fun c h => (by cases h), fun i j _ h => absurd h (Nat.not_lt_zero _), fun i h => absurd h (Nat.not_lt_zero _)⟩
theorem Rise.one {s : List Nat} (hs : s.length = 33) (hl : ∀ c ∈ s, c < 256) (h0 : s.getD 0 0 ≠ 0) : Rise s 1 := ⟨by omega, hl, fun i j h1 h2 => by omega, fun i h => by
  obtain rfl : i = 0 := by omega
  exact h0⟩
theorem Rise.ins {L s : List Nat} {n : Nat} (h : Rise L n) (hs : s.length = 33) (hl : ∀ c ∈ s, c < 256) (h0 : s.getD 0 0 ≠ 0) (hv : hasV L (s.getD 0 0) n = false) : Rise (insL L (posX L (s.getD 0 0) n) s) (n + 1) := by
  have hk := spa_posX (x := s.getD 0 0) n h.up
  generalize hK : posX L (s.getD 0 0) n = k at *
  have hne : ∀ j, j < n → shX L j ≠ s.getD 0 0 := fun j hj he => by
    have h1 : hasV L (s.getD 0 0) n = true := (hasV_iff _ _ _).2 ⟨j, hj, he⟩
    rw [hv] at h1; cases h1
  refine ⟨insL_len h.len hs hk.1, insL_lt h.lt hl, fun i j h1 h2 => ?_, fun i hi => ?_⟩
  · rw [shX_ins h.len hs hk.1, shX_ins h.len hs hk.1]
    by_cases a1 : i < k
    · rw [if_pos a1]
      by_cases a2 : j < k
      · rw [if_pos a2]; exact h.up i j h1 (by have := hk.1; omega)
      · rw [if_neg a2]
        by_cases a3 : j = k
        · rw [if_pos a3]; exact hk.2.1 i a1
        · rw [if_neg a3]; exact h.up i (j - 1) (by omega) (by omega)
    · rw [if_neg a1]
      by_cases a2 : i = k
      · rw [if_pos a2, if_neg (by omega), if_neg (by omega)]
        have h3 := hk.2.2 (j - 1) (by omega) (by omega)
        have h4 := hne (j - 1) (by omega)
        omega
      · rw [if_neg a2, if_neg (by omega), if_neg (by omega)]
        exact h.up (i - 1) (j - 1) (by omega) (by omega)
  · rw [shX_ins h.len hs hk.1]
    by_cases a1 : i < k
    · rw [if_pos a1]; exact h.nz i (by have := hk.1; omega)
    · rw [if_neg a1]
      by_cases a2 : i = k
      · rw [if_pos a2]; exact h0
      · rw [if_neg a2]; exact h.nz (i - 1) (by omega)
theorem shX_take (L : List Nat) {T j : Nat} (hj : j < T) : shX (L.take (T * 33)) j = shX L j := by
  unfold shX
  rw [List.getD_eq_getElem?_getD, List.getElem?_take_of_lt (by omega), ← List.getD_eq_getElem?_getD]
theorem Rise.take {L : List Nat} {n T : Nat} (h : Rise L n) (hT : T ≤ n) : Rise (L.take (T * 33)) T := by
  refine ⟨by rw [List.length_take, h.len]; omega, fun c hc => h.lt c (List.mem_of_mem_take hc), fun i j h1 h2 => ?_, fun i hi => ?_⟩
  · rw [shX_take L (by omega), shX_take L h2]; exact h.up i j h1 (by omega)
  · rw [shX_take L hi]; exact h.nz i (by omega)
theorem Rise.plc {L : List Nat} {n : Nat} (h : Rise L n) : plc L n = 0 := by
  have h1 : zeroX L n = false := by
    cases hz : zeroX L n with
    | false => rfl
    | true =>
      rw [zeroX, List.any_eq_true] at hz
      obtain ⟨i, hi, he⟩ := hz
      exact absurd (by simpa using he) (h.nz i (List.mem_range.1 hi))
  have h2 : dupX L n = false := by
    cases hz : dupX L n with
    | false => rfl
    | true =>
      rw [dupX, List.any_eq_true] at hz
      obtain ⟨i, hi, he⟩ := hz
      rw [hasX, List.any_eq_true] at he
      obtain ⟨j, hj, he⟩ := he
      have := h.up j i (List.mem_range.1 hj) (List.mem_range.1 hi)
      have he2 : shX L j = shX L i := by simpa using he
      omega
  unfold Go.Proofs.YtdbfikcpaionbaaDoor.plc
  rw [h1, h2]; rfl
structure Kst where
  t : Int
  p : List Nat
  mine : List Nat
  n : Nat
  L : List Nat
  m : List Nat
  o : Bool
def z32L : List Nat := List.replicate 32 0
def aloN (s : List Nat) : Nat := if s.getD 0 0 = 0 then 0 else 1
def aloL (s : List Nat) : List Nat := if s.getD 0 0 = 0 then [] else s
def kNew (t : Int) (p mine : List Nat) : Kst := ⟨t, p, mine, aloN mine, aloL mine, z32L, false⟩
def kCom (L : List Nat) (T : Nat) : List Nat := cmbTo (L.take (T * 33)) T T 0
def kIns (st : Kst) (s : List Nat) : Kst := if s.getD 0 0 ≠ 0 ∧ hasV st.L (s.getD 0 0) st.n = false then { st with n := st.n + 1, L := insL st.L (posX st.L (s.getD 0 0) st.n) s } else st
def kTry (st : Kst) : Kst := if st.t < 1 ∨ (st.n : Int) < st.t then st else if prfL (kCom st.L st.t.toNat) = st.p then { st with m := kCom st.L st.t.toNat, o := true } else { st with n := aloN st.mine, L := aloL st.mine }
def kOffer (st : Kst) (s : List Nat) : Kst := if st.o = true then st else kTry (kIns st s)
structure KOK (st : Kst) : Prop where
  pl : st.p.length = 32
  pb : ∀ c ∈ st.p, c < 256
  ml : st.mine.length = 33
  mb : ∀ c ∈ st.mine, c < 256
  kl : st.m.length = 32
  kb : ∀ c ∈ st.m, c < 256
  r : Rise st.L st.n
  t0 : -9223372036854775808 ≤ st.t
  t1 : st.t ≤ 9223372036854775807
theorem alo_rise {s : List Nat} (hs : s.length = 33) (hl : ∀ c ∈ s, c < 256) : Rise (aloL s) (aloN s) := by
  unfold aloL aloN
  split
  · exact Rise.nil_
  · rename_i h; exact Rise.one hs hl h
theorem aloN_le (s : List Nat) : aloN s ≤ 1 := by unfold aloN; split <;> omega
theorem kCom_len (L : List Nat) (T : Nat) : (kCom L T).length = 32 := cmbTo_len _ _ _ _
theorem kCom_lt (L : List Nat) (T : Nat) : ∀ c ∈ kCom L T, c < 256 := cmbTo_lt _ _ _ _
theorem kNew_ok {t : Int} {p mine : List Nat} (hp : p.length = 32) (hpb : ∀ c ∈ p, c < 256) (hm : mine.length = 33) (hmb : ∀ c ∈ mine, c < 256) (h0 : -9223372036854775808 ≤ t) (h1 : t ≤ 9223372036854775807) : KOK (kNew t p mine) :=
  ⟨hp, hpb, hm, hmb, show z32L.length = 32 by decide, show ∀ c ∈ z32L, c < 256 by decide, alo_rise hm hmb, h0, h1⟩
theorem kIns_ok {st : Kst} (h : KOK st) {s : List Nat} (hs : s.length = 33) (hl : ∀ c ∈ s, c < 256) : KOK (kIns st s) := by
  unfold kIns
  split
  · rename_i hc; exact ⟨h.pl, h.pb, h.ml, h.mb, h.kl, h.kb, h.r.ins hs hl hc.1 hc.2, h.t0, h.t1⟩
  · exact h
theorem kIns_t (st : Kst) (s : List Nat) : (kIns st s).t = st.t ∧ (kIns st s).p = st.p ∧ (kIns st s).mine = st.mine ∧ (kIns st s).m = st.m ∧ (kIns st s).o = st.o ∧ (kIns st s).n ≤ st.n + 1 := by
  unfold kIns
  split
  · exact ⟨rfl, rfl, rfl, rfl, rfl, Nat.le_refl _⟩
  · exact ⟨rfl, rfl, rfl, rfl, rfl, Nat.le_succ _⟩
theorem kTry_ok {st : Kst} (h : KOK st) : KOK (kTry st) := by
  unfold kTry
  split
  · exact h
  · split
    · exact ⟨h.pl, h.pb, h.ml, h.mb, kCom_len _ _, kCom_lt _ _, h.r, h.t0, h.t1⟩
    · exact ⟨h.pl, h.pb, h.ml, h.mb, h.kl, h.kb, alo_rise h.ml h.mb, h.t0, h.t1⟩
theorem kTry_n (st : Kst) (N : Nat) (h1 : 1 ≤ N) (h : st.n ≤ N) : (kTry st).n ≤ N := by
  unfold kTry
  split
  · exact h
  · split
    · exact h
    · exact Nat.le_trans (aloN_le _) h1
theorem kOffer_ok {st : Kst} (h : KOK st) {s : List Nat} (hs : s.length = 33) (hl : ∀ c ∈ s, c < 256) : KOK (kOffer st s) := by
  unfold kOffer
  split
  · exact h
  · exact kTry_ok (kIns_ok h hs hl)
theorem kOffer_n (st : Kst) (s : List Nat) : (kOffer st s).n ≤ st.n + 1 := by
  unfold kOffer
  split
  · exact Nat.le_succ _
  · exact kTry_n _ _ (by omega) (kIns_t st s).2.2.2.2.2
end Go.Proofs.YtdbfikcpaionbaaDoor
/- The keeper's memory. -/

namespace Go.Proofs.YtdbfikcpaionbaaDoor
open Go.RowKit
set_option linter.unusedVariables false
set_option linter.unusedSimpArgs false
theorem run_builtK (w : World) (t : TypeId) (parts : List (Nat × Value)) (cells : Array Value) (hf : Tryd.prog.built t parts = some cells) {o : Oper} {a : Act} (ps : Array (Nat × Operand)) (ho : o.op = .build t ps) (hp : (ps.map fun (i, x) => (i, a.eval x)).toList = parts) :
    (execOp a.eval o).run Tryd.prog w = .ok (.value (.agg cells)) w := by
  subst hp
  unfold execOp
  simp only [ho, Sem.run_bind, run_build w t _ cells hf, Result.andThen_ok]
  rfl
theorem wpList_valK {P : Program} {ops : Array Oper} {rest : List Oper} {o : Oper} {a : Act} {w : World} {Q : Exit → Act → World → Prop} (v : Value) (hr : (execOp a.eval o).run P w = .ok (.value v) w) (hw : Region.wanted o (yielded ops a.tmps) = true)
    (h : wpList P ops Q rest (a.put o.dst v) w) : wpList P ops Q (o :: rest) a w :=
  wpList_step fun K hK => by
    rw [if_pos hw]
    unfold Oper.wp
    rw [hr]
    exact hK _ _ h
/-- the keeper's block: t, proof, mine, shares, master, open (and keys) -/
structure KAt (w : World) (g : Nat) (T : TypeId) (sz : Nat) (st : Kst) (v : Value) : Prop where
  bk : ∃ cs : Array Value, w.heap[g]? = some (.cells cs T (0, 0)) ∧ cs.size = sz
  ct : w.cell? ⟨g, 0, none⟩ = some (.int .i64 st.t)
  rp : w.rangeAt g 1 (byt st.p)
  rm : w.rangeAt g 33 (byt st.mine)
  cv : w.cell? ⟨g, 66, none⟩ = some v
  rk : w.rangeAt g 67 (byt st.m)
  co : w.cell? ⟨g, 99, none⟩ = some (.bool st.o)
  own : OwnS w (g + 1) v st.n st.L
theorem KAt.lt {w : World} {g : Nat} {T : TypeId} {sz : Nat} {st : Kst} {v : Value} (h : KAt w g T sz st v) : g < w.heap.size := by
  obtain ⟨cs, hg, _⟩ := h.bk
  exact (Array.getElem?_eq_some_iff.1 hg).1
theorem KAt.keep {w w' : World} {g : Nat} {T : TypeId} {sz : Nat} {st : Kst} {v : Value} {S : Nat → Prop} (h : KAt w g T sz st v) (ho : Only S w w') (hg : ¬ S g) (hv : ∀ b, v.ownBlock = some b → ¬ S b) : KAt w' g T sz st v := by
  obtain ⟨cs, hb, hs⟩ := h.bk
  have hc : ∀ {a : Addr} {u : Value}, a.block = g → w.cell? a = some u → w'.cell? a = some u := fun ha hu => ho.cell hu (by rw [ha]; exact hg)
  have hr : ∀ {o : Nat} {cs : List Value}, w.rangeAt g o cs → w'.rangeAt g o cs := fun h j u hu => hc rfl (h j u hu)
  exact ⟨⟨cs, (ho.block g h.lt hg).trans hb, hs⟩, hc rfl h.ct, hr h.rp, hr h.rm, hc rfl h.cv, hr h.rk, hc rfl h.co, own_keep h.own ho hv⟩
theorem KAt.next {w w' : World} {g : Nat} {T : TypeId} {sz : Nat} {st : Kst} {v : Value} (h : KAt w g T sz st v) (hb : Below w.heap.size w w') : KAt w' g T sz st v :=
  h.keep (S := fun _ => False) (Only.of_below hb) (fun h => h) (fun _ _ h => h)
/-- one cell of the block is written -/
theorem KAt.set_ {w : World} {g : Nat} {T : TypeId} {sz : Nat} {st : Kst} {v : Value} (h : KAt w g T sz st v) (k : Nat) (u : Value) :
    (∃ cs : Array Value, (w.setCell ⟨g, k, none⟩ u).heap[g]? = some (.cells cs T (0, 0)) ∧ cs.size = sz) ∧
    (∀ j x, j ≠ k → w.cell? ⟨g, j, none⟩ = some x → (w.setCell ⟨g, k, none⟩ u).cell? ⟨g, j, none⟩ = some x) ∧
    (∀ o cs, (k < o ∨ o + cs.length ≤ k) → w.rangeAt g o cs → (w.setCell ⟨g, k, none⟩ u).rangeAt g o cs) ∧
    (k < sz → (w.setCell ⟨g, k, none⟩ u).cell? ⟨g, k, none⟩ = some u) ∧ OwnS (w.setCell ⟨g, k, none⟩ u) (g + 1) v st.n st.L := by
  obtain ⟨cs, hb, hs⟩ := h.bk
  have hb' := heapSet (i := k) u hb
  have hoth : ∀ j x, j ≠ k → w.cell? ⟨g, j, none⟩ = some x → (w.setCell ⟨g, k, none⟩ u).cell? ⟨g, j, none⟩ = some x := fun j x hj hx => by
    simp only [World.cell?, hb, hb'] at hx ⊢
    rw [Array.getElem?_setIfInBounds_ne (fun e => hj e.symm)]; exact hx
  refine ⟨⟨_, hb', by simpa using hs⟩, hoth, fun o l hk hr j x hj => ?_, fun hk => ?_, own_keep (S := fun i => i = g) h.own ((Only.refl (fun i => i = g) w).setCell (p := ⟨g, k, none⟩) (fun _ => rfl) u) (fun b hb0 => by have := own_base h.own b hb0; omega)⟩
  · have hjl : j < l.length := by
      rcases Nat.lt_or_ge j l.length with h1 | h1
      · exact h1
      · rw [List.getElem?_eq_none h1] at hj; cases hj
    exact hoth (o + j) x (by omega) (hr j x hj)
  · simp only [World.cell?, hb']
    rw [Array.getElem?_setIfInBounds_self_of_lt (by omega)]
    rfl
/-- the shares are written -/
theorem KAt.setV {w : World} {g : Nat} {T : TypeId} {sz : Nat} {st : Kst} {v : Value} (h : KAt w g T sz st v) (hsz : 100 ≤ sz) (hp : st.p.length = 32) (hm : st.mine.length = 33) (v' : Value) (n' : Nat) (L' : List Nat) (ho : OwnS w (g + 1) v' n' L') :
    KAt (w.setCell ⟨g, 66, none⟩ v') g T sz { st with n := n', L := L' } v' := by
  obtain ⟨a, b, c, d, _⟩ := h.set_ 66 v'
  exact ⟨a, b _ _ (by decide) h.ct, c _ _ (.inr (by rw [byt_len, hp]; decide)) h.rp, c _ _ (.inr (by rw [byt_len, hm]; decide)) h.rm, d (by omega), c _ _ (.inl (by decide)) h.rk, b _ _ (by decide) h.co,
    own_keep (S := fun i => i = g) ho ((Only.refl (fun i => i = g) w).setCell (p := ⟨g, 66, none⟩) (fun _ => rfl) v') (fun b hb0 => by have := own_base ho b hb0; omega)⟩
theorem KAt.setO {w : World} {g : Nat} {T : TypeId} {sz : Nat} {st : Kst} {v : Value} (h : KAt w g T sz st v) (hsz : 100 ≤ sz) (hp : st.p.length = 32) (hm : st.mine.length = 33) (hk : st.m.length = 32) (o : Bool) :
    KAt (w.setCell ⟨g, 99, none⟩ (.bool o)) g T sz { st with o := o } v := by
  obtain ⟨a, b, c, d, e⟩ := h.set_ 99 (.bool o)
  exact ⟨a, b _ _ (by decide) h.ct, c _ _ (.inr (by rw [byt_len, hp]; decide)) h.rp, c _ _ (.inr (by rw [byt_len, hm]; decide)) h.rm, b _ _ (by decide) h.cv, c _ _ (.inr (by rw [byt_len, hk]; decide)) h.rk, d (by omega), e⟩
theorem only_setCellsG (g : Nat) : ∀ (vs : List Value) (o : Nat) (a w : World), Only (fun k => k = g) a w → Only (fun k => k = g) a (w.setCells g o vs)
  | [], _, _, _, h => h
  | v :: r, o, a, w, h => only_setCellsG g r (o + 1) a _ (h.setCell (p := ⟨g, o, none⟩) (fun _ => rfl) v)
theorem KAt.there {w : World} {g : Nat} {T : TypeId} {sz : Nat} {st : Kst} {v : Value} (h : KAt w g T sz st v) (o n : Nat) (ho : o + n ≤ sz) : w.there g o n := fun j hj => by
  obtain ⟨cs, hb, hs⟩ := h.bk
  refine ⟨?_, freeOf hb⟩
  simp only [World.cell?, hb]
  rw [Array.getElem?_eq_getElem (by omega)]; rfl
/-- the master key is written -/
theorem KAt.setM {w : World} {g : Nat} {T : TypeId} {sz : Nat} {st : Kst} {v : Value} (h : KAt w g T sz st v) (hsz : 100 ≤ sz) (hp : st.p.length = 32) (hm : st.mine.length = 33) (m' : List Nat) (hm' : m'.length = 32) :
    KAt (w.setCells g 67 (byt m')) g T sz { st with m := m' } v := by
  have hlen : (byt m').length = 32 := by rw [byt_len, hm']
  have hoth : ∀ j x, j < 67 ∨ 99 ≤ j → w.cell? ⟨g, j, none⟩ = some x → (w.setCells g 67 (byt m')).cell? ⟨g, j, none⟩ = some x := fun j x hj hx => by
    rw [World.cell?_setCells_out g (byt m') 67 w ⟨g, j, none⟩ (fun _ _ => by show j < 67 ∨ 67 + (byt m').length ≤ j; omega)]; exact hx
  have hon := only_setCellsG g (byt m') 67 w w (Only.refl _ w)
  refine ⟨?_, hoth _ _ (by omega) h.ct, World.rangeAt_setCells_apart h.rp _ _ _ (.inr (.inl (by rw [byt_len, hp]; decide))), World.rangeAt_setCells_apart h.rm _ _ _ (.inr (.inl (by rw [byt_len, hm]; decide))), hoth _ _ (by omega) h.cv, World.rangeAt_setCells_same w g 67 (byt m') (h.there 67 _ (by omega)), hoth _ _ (by omega) h.co,
    own_keep h.own hon (fun b hb0 => by have := own_base h.own b hb0; omega)⟩
  obtain ⟨cs, hb, hs⟩ := h.bk
  obtain ⟨cs', hb', hs'⟩ : ∃ cs' : Array Value, (w.setCells g 67 (byt m')).heap[g]? = some (.cells cs' T (0, 0)) ∧ cs'.size = sz := by
    have H : ∀ (vs : List Value) (o : Nat) (w : World) (cur : Array Value), w.heap[g]? = some (.cells cur T (0, 0)) → ∃ cs' : Array Value, (w.setCells g o vs).heap[g]? = some (.cells cs' T (0, 0)) ∧ cs'.size = cur.size := by
      intro vs
      induction vs with
      | nil => intro o w cur hg; exact ⟨cur, hg, rfl⟩
      | cons u r ih =>
        intro o w cur hg
        obtain ⟨c', a, b⟩ := ih (o + 1) (w.setCell ⟨g, o, none⟩ u) _ (heapSet u hg)
        exact ⟨c', a, by rw [b]; simp⟩
    obtain ⟨c', a, b⟩ := H (byt m') 67 w cs hb
    exact ⟨c', a, b.trans hs⟩
  exact ⟨cs', hb', hs'⟩
/-- parts laid over cells -/
def ovl (cs : Array Value) (off : Nat) (l : List Value) : Array Value := l.toArray.zipIdx.foldl (fun cs (c, j) => cs.setIfInBounds (off + j) c) cs
theorem ovl_fold (off : Nat) : ∀ (l : List Value) (k : Nat) (cs : Array Value), ((l.zipIdx k).foldl (fun cs (x : Value × Nat) => cs.setIfInBounds (off + x.2) x.1) cs).size = cs.size ∧
    (∀ j, (j < off + k ∨ off + k + l.length ≤ j) → ((l.zipIdx k).foldl (fun cs (x : Value × Nat) => cs.setIfInBounds (off + x.2) x.1) cs)[j]? = cs[j]?) ∧
    (off + k + l.length ≤ cs.size → ∀ j, j < l.length → ((l.zipIdx k).foldl (fun cs (x : Value × Nat) => cs.setIfInBounds (off + x.2) x.1) cs)[off + k + j]? = l[j]?)
  | [], k, cs => ⟨rfl, fun j _ => rfl, fun _ j hj => by cases hj⟩
  | v :: r, k, cs => by
    obtain ⟨a, b, c⟩ := ovl_fold off r (k + 1) (cs.setIfInBounds (off + k) v)
    simp only [List.zipIdx_cons, List.foldl_cons]
    refine ⟨by rw [a]; simp, fun j hj => ?_, fun hs j hj => ?_⟩
    · simp only [List.length_cons] at hj
      rw [b j (by omega), Array.getElem?_setIfInBounds_ne (by omega)]
    · simp only [List.length_cons] at hs hj
      cases j with
      | zero =>
        rw [b (off + k + 0) (by omega), Nat.add_zero, Array.getElem?_setIfInBounds_self_of_lt (by omega)]; rfl
      | succ j =>
        rw [show off + k + (j + 1) = off + (k + 1) + j by omega, c (by simp; omega) j (by omega)]; rfl
theorem ovl_is (cs : Array Value) (off : Nat) (l : List Value) : ovl cs off l = (l.zipIdx 0).foldl (fun cs (x : Value × Nat) => cs.setIfInBounds (off + x.2) x.1) cs := by
  simp [ovl]
theorem ovl_size (cs : Array Value) (off : Nat) (l : List Value) : (ovl cs off l).size = cs.size := by rw [ovl_is]; exact (ovl_fold off l 0 cs).1
theorem ovl_out (cs : Array Value) (off : Nat) (l : List Value) (j : Nat) (h : j < off ∨ off + l.length ≤ j) : (ovl cs off l)[j]? = cs[j]? := by rw [ovl_is]; exact (ovl_fold off l 0 cs).2.1 j (by omega)
theorem ovl_in (cs : Array Value) (off : Nat) (l : List Value) (h : off + l.length ≤ cs.size) (j : Nat) (hj : j < l.length) : (ovl cs off l)[off + j]? = l[j]? := by
  rw [ovl_is]; exact (ovl_fold off l 0 cs).2.2 (by omega) j hj
theorem fill_step (place : Nat → Option (Nat × Nat)) (cells : Array Value) (i : Nat) (v : Value) (rest : List (Nat × Value)) (off size : Nat) (hp : place i = some (off, size)) (hs : v.cells.size = size) (hf : off + size ≤ cells.size) :
    Instr.fill place cells ((i, v) :: rest) = Instr.fill place (ovl cells off v.cells.toList) rest := by
  rw [Instr.fill]
  simp only [hp]
  rw [if_neg (by simp [hs]; omega)]
  simp [ovl]
end Go.Proofs.YtdbfikcpaionbaaDoor
/- A new keeper, of the code, of the document. -/
namespace Go.Proofs.YtdbfikcpaionbaaDoor
open Go.RowKit
set_option linter.unusedVariables false
set_option linter.unusedSimpArgs false
def zRp : Array Value := ([Value.int .i64 0] ++ List.replicate 65 (Value.int .u8 0) ++ [Value.slice none 0 0] ++ List.replicate 32 (Value.int .u8 0) ++ [Value.bool false]).toArray
def zKp : Array Value := ([Value.int .i64 0] ++ List.replicate 65 (Value.int .u8 0) ++ [Value.slice none 0 0] ++ List.replicate 32 (Value.int .u8 0) ++ [Value.bool false] ++ [Value.map none]).toArray
def plK : Array (Nat × Nat) := #[(0, 1), (1, 32), (33, 33), (66, 1), (67, 32), (99, 1), (100, 1)]
def plR : Array (Nat × Nat) := #[(0, 1), (1, 32), (33, 33), (66, 1), (67, 32), (99, 1)]
theorem zKp_size : zKp.size = 101 := by kernel_rfl
theorem zRp_size : zRp.size = 100 := by kernel_rfl
theorem zKp_v : zKp[66]? = some (.slice none 0 0) := by kernel_rfl
theorem zRp_v : zRp[66]? = some (.slice none 0 0) := by kernel_rfl
theorem zKp_o : zKp[99]? = some (.bool false) := by kernel_rfl
theorem zRp_o : zRp[99]? = some (.bool false) := by kernel_rfl
theorem zKp_m : (zKp.toList.drop 67).take 32 = byt z32L := by kernel_rfl
theorem zRp_m : (zRp.toList.drop 67).take 32 = byt z32L := by kernel_rfl
theorem built_K (parts : List (Nat × Value)) : Tryd.prog.built 48 parts = Instr.fill (fun i => plK[i]?) zKp parts := by kernel_rfl
theorem built_R (parts : List (Nat × Value)) : Tryd.prog.built 44 parts = Instr.fill (fun i => plR[i]?) zRp parts := by kernel_rfl
/-- the cells of a new keeper -/
def nwC (z : Array Value) (t : Int) (p mine : List Nat) : Array Value := ovl (ovl (ovl z 0 [.int .i64 t]) 1 (byt p)) 33 (byt mine)
theorem nwC_size (z : Array Value) (t : Int) (p mine : List Nat) : (nwC z t p mine).size = z.size := by simp only [nwC, ovl_size]
theorem built_new {z : Array Value} {pl : Array (Nat × Nat)} (hz : 100 ≤ z.size) (h0 : pl[0]? = some (0, 1)) (h1 : pl[1]? = some (1, 32)) (h2 : pl[2]? = some (33, 33)) (t : Int) (p mine : List Nat) (hp : p.length = 32) (hm : mine.length = 33) (rest : List (Nat × Value)) :
    Instr.fill (fun i => pl[i]?) z ((0, .int .i64 t) :: (1, .agg (vb p)) :: (2, .agg (vb mine)) :: rest) = Instr.fill (fun i => pl[i]?) (nwC z t p mine) rest := by
  have e1 : (Value.int .i64 t).cells = #[.int .i64 t] := rfl
  have e2 : ∀ l, (Value.agg (vb l)).cells = vb l := fun _ => rfl
  rw [fill_step _ _ 0 _ _ 0 1 h0 (by rw [e1]; rfl) (by omega), fill_step _ _ 1 _ _ 1 32 h1 (by rw [e2, vb_size, hp]) (by rw [ovl_size]; omega), fill_step _ _ 2 _ _ 33 33 h2 (by rw [e2, vb_size, hm]) (by rw [ovl_size, ovl_size]; omega)]
  rfl
theorem nwC_t {z : Array Value} (hz : 100 ≤ z.size) (t : Int) (p mine : List Nat) (hp : p.length = 32) (hm : mine.length = 33) : (nwC z t p mine)[0]? = some (.int .i64 t) := by
  unfold nwC
  rw [ovl_out _ _ _ 0 (.inl (by decide)), ovl_out _ _ _ 0 (.inl (by decide))]
  exact ovl_in z 0 [.int .i64 t] (by simp; omega) 0 (by simp)
theorem nwC_p {z : Array Value} (hz : 100 ≤ z.size) (t : Int) (p mine : List Nat) (hp : p.length = 32) (hm : mine.length = 33) (j : Nat) (hj : j < 32) : (nwC z t p mine)[1 + j]? = (byt p)[j]? := by
  unfold nwC
  rw [ovl_out _ _ _ (1 + j) (.inl (by omega))]
  exact ovl_in _ 1 (byt p) (by rw [byt_len, ovl_size]; omega) j (by rw [byt_len]; omega)
theorem nwC_m {z : Array Value} (hz : 100 ≤ z.size) (t : Int) (p mine : List Nat) (hp : p.length = 32) (hm : mine.length = 33) (j : Nat) (hj : j < 33) : (nwC z t p mine)[33 + j]? = (byt mine)[j]? := by
  unfold nwC
  exact ovl_in _ 33 (byt mine) (by rw [byt_len, ovl_size, ovl_size]; omega) j (by rw [byt_len]; omega)
theorem nwC_o {z : Array Value} (t : Int) (p mine : List Nat) (hp : p.length = 32) (hm : mine.length = 33) (j : Nat) (hj : 66 ≤ j) : (nwC z t p mine)[j]? = z[j]? := by
  unfold nwC
  rw [ovl_out _ _ _ j (.inr (by rw [byt_len]; omega)), ovl_out _ _ _ j (.inr (by rw [byt_len]; omega)), ovl_out _ _ _ j (.inr (by simp; omega))]
/-- a new block reads as a keeper that has no share -/
theorem new_at {w : World} {g : Nat} {T : TypeId} {cs : Array Value} {t : Int} {p mine : List Nat} (hb : w.heap[g]? = some (.cells cs T (0, 0))) (hp : p.length = 32) (hm : mine.length = 33)
    (h0 : cs[0]? = some (.int .i64 t)) (h1 : ∀ j, j < 32 → cs[1 + j]? = (byt p)[j]?) (h2 : ∀ j, j < 33 → cs[33 + j]? = (byt mine)[j]?) (h3 : cs[66]? = some (.slice none 0 0)) (h4 : ∀ j, j < 32 → cs[67 + j]? = (byt z32L)[j]?) (h5 : cs[99]? = some (.bool false)) :
    KAt w g T cs.size ⟨t, p, mine, 0, [], z32L, false⟩ (.slice none 0 0) := by
  have hr : ∀ (o : Nat) (l : List Nat), (∀ j, j < l.length → cs[o + j]? = (byt l)[j]?) → w.rangeAt g o (byt l) := fun o l h j v hv => by
    have hj : j < l.length := by
      rcases Nat.lt_or_ge j l.length with h1 | h1
      · exact h1
      · rw [List.getElem?_eq_none (by rw [byt_len]; exact h1)] at hv; cases hv
    exact cellOf hb ((h j hj).trans hv)
  exact ⟨⟨cs, hb, rfl⟩, cellOf hb h0, hr 1 p (fun j hj => h1 j (by omega)), hr 33 mine (fun j hj => h2 j (by omega)), cellOf hb h3, hr 67 z32L (fun j hj => h4 j hj), cellOf hb h5, ⟨rfl, .inl ⟨rfl, rfl⟩⟩⟩
theorem z_m {z : Array Value} (h : (z.toList.drop 67).take 32 = byt z32L) (j : Nat) (hj : j < 32) : z[67 + j]? = (byt z32L)[j]? := by
  rw [← h, List.getElem?_take_of_lt hj, List.getElem?_drop, Array.getElem?_toList]
/-- the code's keeper: its cells -/
def kwC (t : Int) (p mine : List Nat) (mp : Value) : Array Value := ovl (nwC zKp t p mine) 100 [mp]
def rwC (t : Int) (p mine : List Nat) : Array Value := nwC zRp t p mine
theorem kwC_built (t : Int) (p mine : List Nat) (mp : Value) (hp : p.length = 32) (hm : mine.length = 33) (h1 : mp.cells = #[mp]) : Tryd.prog.built 48 [(0, .int .i64 t), (1, .agg (vb p)), (2, .agg (vb mine)), (6, mp)] = some (kwC t p mine mp) := by
  rw [built_K, built_new (by rw [zKp_size]; decide) rfl rfl rfl t p mine hp hm, fill_step _ _ 6 mp [] 100 1 rfl (by rw [h1]; rfl) (by rw [nwC_size, zKp_size]; decide), h1]
  rfl
theorem rwC_built (t : Int) (p mine : List Nat) (hp : p.length = 32) (hm : mine.length = 33) : Tryd.prog.built 44 [(0, .int .i64 t), (1, .agg (vb p)), (2, .agg (vb mine))] = some (rwC t p mine) := by
  rw [built_R, built_new (by rw [zRp_size]; decide) rfl rfl rfl t p mine hp hm]
  rfl
theorem kwC_size (t : Int) (p mine : List Nat) (mp : Value) : (kwC t p mine mp).size = 101 := by unfold kwC; rw [ovl_size, nwC_size, zKp_size]
theorem rwC_size (t : Int) (p mine : List Nat) : (rwC t p mine).size = 100 := by unfold rwC; rw [nwC_size, zRp_size]
theorem kwC_at {w : World} {g : Nat} {t : Int} {p mine : List Nat} {mp : Value} (hp : p.length = 32) (hm : mine.length = 33) (hb : w.heap[g]? = some (.cells (kwC t p mine mp) 48 (0, 0))) : KAt w g 48 101 ⟨t, p, mine, 0, [], z32L, false⟩ (.slice none 0 0) := by
  have hz : 100 ≤ zKp.size := by rw [zKp_size]; decide
  have ho : ∀ j, j < 100 → (kwC t p mine mp)[j]? = (nwC zKp t p mine)[j]? := fun j hj => ovl_out _ _ _ j (.inl hj)
  have h := new_at (t := t) (p := p) (mine := mine) hb hp hm ((ho 0 (by decide)).trans (nwC_t hz t p mine hp hm)) (fun j hj => (ho _ (by omega)).trans (nwC_p hz t p mine hp hm j hj)) (fun j hj => (ho _ (by omega)).trans (nwC_m hz t p mine hp hm j hj))
    ((ho 66 (by decide)).trans ((nwC_o t p mine hp hm 66 (by decide)).trans zKp_v)) (fun j hj => (ho _ (by omega)).trans ((nwC_o t p mine hp hm (67 + j) (by omega)).trans (z_m zKp_m j hj))) ((ho 99 (by decide)).trans ((nwC_o t p mine hp hm 99 (by decide)).trans zKp_o))
  rw [kwC_size] at h
  exact h
theorem rwC_at {w : World} {g : Nat} {t : Int} {p mine : List Nat} (hp : p.length = 32) (hm : mine.length = 33) (hb : w.heap[g]? = some (.cells (rwC t p mine) 44 (0, 0))) : KAt w g 44 100 ⟨t, p, mine, 0, [], z32L, false⟩ (.slice none 0 0) := by
  have hz : 100 ≤ zRp.size := by rw [zRp_size]; decide
  have h := new_at (t := t) (p := p) (mine := mine) hb hp hm (nwC_t hz t p mine hp hm) (fun j hj => nwC_p hz t p mine hp hm j hj) (fun j hj => nwC_m hz t p mine hp hm j hj)
    ((nwC_o t p mine hp hm 66 (by decide)).trans zRp_v) (fun j hj => (nwC_o t p mine hp hm (67 + j) (by omega)).trans (z_m zRp_m j hj)) ((nwC_o t p mine hp hm 99 (by decide)).trans zRp_o)
  rw [rwC_size] at h
  exact h
end Go.Proofs.YtdbfikcpaionbaaDoor
/- Contracts: a keeper's own share alone; Open, Count, Master. -/
namespace Go.Proofs.YtdbfikcpaionbaaDoor
open Go.RowKit
set_option linter.unusedVariables false
set_option linter.unusedSimpArgs false
def kAlone (st : Kst) : Kst := { st with n := aloN st.mine, L := aloL st.mine }
def TK : TypeId := 48
def TR : TypeId := 44
/-- behind a method: the keeper is so; nothing else has turned -/
def KGo (w : World) (g : Nat) (T : TypeId) (sz : Nat) (st : Kst) (v : Value) (w' : World) : Prop :=
  ∃ v', KAt w' g T sz st v' ∧ Only (fun k => k = g ∨ v.ownBlock = some k) w w' ∧ (v'.ownBlock = v.ownBlock ∨ ∀ b, v'.ownBlock = some b → w.heap.size ≤ b)
theorem KAt.mine0 {w : World} {g : Nat} {T : TypeId} {sz : Nat} {st : Kst} {v : Value} (h : KAt w g T sz st v) (hm : st.mine.length = 33) : w.cell? ⟨g, 33, none⟩ = some (.int .u8 (st.mine.getD 0 0 : Nat)) := h.rm 0 _ (byt_at (by omega))
theorem own_one (W : World) (base : Nat) (s : List Nat) (hs : s.length = 33) (hb : base ≤ W.heap.size) : OwnS (W.alloc (.cells (vb s) 31)) base (.slice (some ⟨W.heap.size, 0, none⟩) 1 1) 1 s :=
  own_row (cur := vb s) (n := 1) (cap := 1) hb (heapNew W _) (by omega) (Nat.le_refl _) (by decide) (by rw [vb_size, hs]) [] (by simp [vb])
set_option maxRecDepth 100000 in
set_option maxHeartbeats 2000000 in
theorem alone_x (w : World) (g : Nat) (st : Kst) (v : Value) (hok : KOK st) (h : KAt w g 48 101 st v) :
    Calls Tryd.prog 17 #[.pointer (some ⟨g, 0, none⟩)] w fun e w' => e = .returned (.tuple #[]) ∧ ∃ v', KAt w' g 48 101 (kAlone st) v' ∧ Only (fun k => k = g ∨ v.ownBlock = some k) w w' ∧ ∀ b, v'.ownBlock = some b → b = w.heap.size := by
  obtain ⟨i0, hi0, hz0, hz1, hz2⟩ := info_parts shInfo
  have HI := Lib.hid (And.intro hi0 (And.intro hz0 (And.intro hz1 hz2)))
  have hc66 := h.cv
  have hf66 : w.frozen? ⟨g, 66, none⟩ = false := (h.there 66 1 (by decide) 0 (by decide)).2
  have h1 := h.setV (by decide) hok.pl hok.ml (.slice none 0 0) 0 [] ⟨rfl, .inl ⟨rfl, rfl⟩⟩
  have hx := h1.mine0 hok.ml
  have HO1 := Lib.hid ((Only.refl (fun k => k = g ∨ v.ownBlock = some k) w).setCell (p := ⟨g, 66, none⟩) (fun _ => .inl rfl) (.slice none 0 0))
  have H1 := Lib.hid h1
  have HGL := Lib.hid h.lt
  have HOK := Lib.hid hok
  by_cases h0 : st.mine.getD 0 0 = 0
  · have he : kAlone st = { st with n := 0, L := [] } := by unfold kAlone aloN aloL; rw [if_pos h0, if_pos h0]
    rw [he]
    simp only [h0] at hx
    clear h h1 h0 he hok hi0 hz0 hz1 hz2
    go_enter Tryd.func17, Tryd.ntmps17
    go_wp2_with fail
    refine bodyPost_end (results_none rfl _ _ _) rfl ?_
    exact ⟨rfl, _, H1.out, HO1.out, (fun b hb => by cases hb)⟩
  · have he : kAlone st = { st with n := 1, L := st.mine } := by unfold kAlone aloN aloL; rw [if_neg h0, if_neg h0]
    rw [he]
    have hxb : st.mine.getD 0 0 < 256 := getD_lt hok.mb 0
    generalize st.mine.getD 0 0 = x at *
    have hxn : ¬ (x : Int) = 0 := by omega
    have hrm := h1.rm
    have HRM := Lib.hid (show (w.setCell ⟨g, 66, none⟩ (.slice none 0 0)).rangeAt g 33 (byt st.mine) from hrm)
    have HSM := Lib.hid (show (Tryd.prog.info? 31).map (·.size) = some (byt st.mine).length by rw [byt_len, hok.ml]; kernel_rfl)
    have HVS := Lib.hid (show (vb st.mine).size = 33 by rw [vb_size, hok.ml])
    clear h h1 he hok h0 hrm hi0 hz0 hz1 hz2
    go_enter Tryd.func17, Tryd.ntmps17
    go_upto_region 2 with fail
    generalize hW : w.setCell ⟨g, 66, none⟩ (.slice none 0 0) = W at *
    have hsz : W.heap.size = w.heap.size := by rw [← hW, heapSize_set]
    clear hW
    have ho := own_one W (g + 1) st.mine HOK.out.ml (by rw [hsz]; exact HGL.out)
    have h2 := H1.out.next ((Below.refl W.heap.size W).alloc (Nat.le_refl _) (.cells (vb st.mine) 31))
    have hcv2 := h2.cv
    have hf2 := (h2.there 66 1 (by decide) 0 (by decide)).2
    have h3 := h2.setV (by decide) HOK.out.pl HOK.out.ml (.slice (some ⟨W.heap.size, 0, none⟩) 1 1) 1 st.mine ho
    have H3 := Lib.hid h3
    have HO3 := Lib.hid ((HO1.out.alloc (.cells (vb st.mine) 31)).setCell (p := ⟨g, 66, none⟩) (fun _ => .inl rfl) (.slice (some ⟨W.heap.size, 0, none⟩) 1 1))
    have HSZ := Lib.hid hsz
    clear ho h2 h3 hsz
    go_wp2_with (first
      | (refine wpList_load_mid rfl 31 (.tmp 14) rfl g 33 rfl (byt st.mine) _ HRM.out Tryd.underlying31 rfl HSM.out ?_)
      | (refine wpList_buildOne rfl 38 31 (.tmp 15) rfl (vb st.mine) rfl i0 (.agg z33) 33 Tryd.underlying38 HI.out.1 HI.out.2.1 HI.out.2.2.1 HVS.out (by decide) (by decide) ?_))
    refine bodyPost_end (results_none rfl _ _ _) rfl ?_
    exact ⟨rfl, _, H3.out, HO3.out, (fun b hb => by injection hb with hb; have h := HSZ.out; subst hb; exact h)⟩
theorem alone_c (w : World) (g : Nat) (st : Kst) (v : Value) (hok : KOK st) (h : KAt w g 48 101 st v) :
    Calls Tryd.prog 17 #[.pointer (some ⟨g, 0, none⟩)] w fun e w' => e = .returned (.tuple #[]) ∧ KGo w g 48 101 (kAlone st) v w' :=
  (alone_x w g st v hok h).mono fun e w' ⟨h1, v', h2, h3, h4⟩ => ⟨h1, v', h2, h3, .inr fun b hb => Nat.le_of_eq (h4 b hb).symm⟩
set_option maxRecDepth 100000 in
theorem kopen_c (w : World) (g : Nat) (o : Bool) (h : w.cell? ⟨g, 99, none⟩ = some (.bool o)) :
    Calls Tryd.prog 10 #[.pointer (some ⟨g, 0, none⟩)] w fun e w' => e = .returned (.bool o) ∧ w = w' := by
  cases o
  all_goals
    go_enter Tryd.func10, Tryd.ntmps10
    go_wp2_with fail
    go_ret
    exact ⟨rfl, rfl⟩
set_option maxRecDepth 100000 in
theorem kcount_c (w : World) (g : Nat) (A : Option Addr) (n c : Nat) (h : w.cell? ⟨g, 66, none⟩ = some (.slice A n c)) :
    Calls Tryd.prog 16 #[.pointer (some ⟨g, 0, none⟩)] w fun e w' => e = .returned (.int .i64 n) ∧ w = w' := by
  go_enter Tryd.func16, Tryd.ntmps16
  go_wp2_with fail
  go_ret
  exact ⟨rfl, rfl⟩
/-- what Master answers -/
def kmL (st : Kst) : List Nat := if st.o = true then st.m else z32L
def kmE (st : Kst) : Int := if st.o = true then 0 else 11
theorem key_szL {l : List Nat} (h : l.length = 32) : (Tryd.prog.info? 23).map (·.size) = some (vb l).size := by rw [vb_size, h]; kernel_rfl
set_option maxRecDepth 100000 in
set_option maxHeartbeats 2000000 in
theorem master_c (w : World) (g : Nat) (st : Kst) (v : Value) (hok : KOK st) (h : KAt w g 48 101 st v) :
    Calls Tryd.prog 12 #[.pointer (some ⟨g, 0, none⟩)] w fun e w' => e = .returned (.tuple #[.agg (vb (kmL st)), .int .i64 (kmE st)]) ∧ Below w.heap.size w w' := by
  have zf := zero_key
  have zn := z32_size
  have ze := z32_ne
  have hz1 : Blk (w.alloc (.cells z32 23)) w.heap.size 23 z32 := Blk.new w _ _
  have hb1 : Below w.heap.size w (w.alloc (.cells z32 23)) := (Below.refl _ _).alloc (Nat.le_refl _) _
  have h1 := h.next hb1
  have hop := fun o (he : st.o = o) => kopen_c (w.alloc (.cells z32 23)) g o (by rw [← he]; exact h1.co)
  have HOK := Lib.hid hok
  have HGL := Lib.hid h.lt
  unfold kmL kmE
  cases ho : st.o with
  | false =>
    rw [if_neg (by decide), if_neg (by decide)]
    have HOP := Lib.hid (hop false ho)
    have HZ1 := Lib.hid hz1
    have HB1 := Lib.hid hb1
    have HBT := Lib.hid (show Tryd.prog.built 23 [] = some z32 by kernel_rfl)
    have HS := Lib.hid (key_szL (l := z32L) rfl)
    clear hop h h1 ho hz1 hb1 hok
    go_enter Tryd.func12, Tryd.ntmps12
    go_upto_region 1 with fail
    generalize w.alloc (.cells z32 23) = Z at *
    go_wp2_with (first
      | (go_at_call 10; (refine HOP.out.mono ?_); rintro e w2 ⟨rfl, rfl⟩)
      | (refine wpList_valK (.agg z32) (run_builtK _ 23 [] _ HBT.out _ rfl rfl) (by kernel_rfl) ?_)
      | (refine wpList_store_rowTo rfl 23 (.tmp 2) (.tmp 7) rfl rfl w.heap.size (vb z32L) rfl rfl 23 z32 HZ1.out HS.out rfl (vb_one _) ?_))
    (try simp only [Exit.inBlock, Exit.then])
    refine bodyPost_ret (results_row_tmp rfl _ _ w.heap.size 23 (vb z32L) (0, 0) _ rfl (setRow_heap _ _ z32 _ 23 (0, 0) HZ1.out) Tryd.underlying23 rfl HS.out) rfl ?_
    exact ⟨rfl, Below.setRow HB1.out (Nat.le_refl _) _⟩
  | true =>
    rw [if_pos rfl, if_pos rfl]
    have HOP := Lib.hid (hop true ho)
    have HZ1 := Lib.hid hz1
    have HB1 := Lib.hid hb1
    have HRK := Lib.hid h1.rk
    have HS := Lib.hid (key_szL hok.kl)
    have HS2 := Lib.hid (show (Tryd.prog.info? 23).map (·.size) = some (byt st.m).length by rw [byt_len, hok.kl]; kernel_rfl)
    have HQ := Lib.hid (show z32.size = (vb st.m).size by rw [vb_size, hok.kl]; rfl)
    clear hop h h1 ho hz1 hb1 hok
    go_enter Tryd.func12, Tryd.ntmps12
    go_upto_region 1 with fail
    generalize w.alloc (.cells z32 23) = Z at *
    go_wp2_with (first
      | (go_at_call 10; (refine HOP.out.mono ?_); rintro e w2 ⟨rfl, rfl⟩)
      | (refine wpList_load_mid rfl 23 (.tmp 10) rfl g 67 rfl (byt st.m) _ HRK.out Tryd.underlying23 rfl HS2.out ?_)
      | (refine wpList_store_rowTo rfl 23 (.tmp 2) (.tmp 11) rfl rfl w.heap.size (vb st.m) rfl rfl 23 z32 HZ1.out HS.out HQ.out (vb_one _) ?_))
    (try simp only [Exit.inBlock, Exit.then])
    refine bodyPost_ret (results_row_tmp rfl _ _ w.heap.size 23 (vb st.m) (0, 0) _ rfl (setRow_heap _ _ z32 _ 23 (0, 0) HZ1.out) Tryd.underlying23 rfl HS.out) rfl ?_
    exact ⟨rfl, Below.setRow HB1.out (Nat.le_refl _) _⟩
end Go.Proofs.YtdbfikcpaionbaaDoor
