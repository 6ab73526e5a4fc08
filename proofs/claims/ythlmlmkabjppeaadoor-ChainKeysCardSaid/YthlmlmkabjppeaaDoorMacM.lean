/- Merged: Mac1 Mac2 Mac3 Aw03 Hm1. -/
import Derived.Test.YthlmlmkabjppeaaDoorSs2
import Derived.Test.YthlmlmkabjppeaaDoorShaC
import Derived.Laws.CopyRow
import Derived.StillTailTactics
import Derived.Test.YthlmlmkabjppeaaDoorSs3
namespace Go.Proofs.YthlmlmkabjppeaaDoor
open Go.RowKit
set_option linter.unusedVariables false
set_option linter.unusedSimpArgs false
def zk64 : Array Value := vb (List.replicate 64 0)
theorem zero_k64 (w : World) : (zeroValue 67).run Tryd.prog w = .ok (.agg zk64) w := by kernel_rfl
theorem info_k64 : (Tryd.prog.info? 67).map (·.size) = some 64 := by kernel_rfl
theorem u8_xor_nat (x c : Nat) (hx : x < 256) (hc : c < 256) : Go.bits BinOp.xor IntKind.u8 (x : Int) (c : Int) = ((x ^^^ c : Nat) : Int) := by
  show IntKind.wrap IntKind.u8 ((BitVec.ofInt 8 (x : Int) ^^^ BitVec.ofInt 8 (c : Int)).toNat : Int) = _
  rw [BitVec.ofInt_natCast, BitVec.ofInt_natCast, BitVec.toNat_xor, BitVec.toNat_ofNat, BitVec.toNat_ofNat, Nat.mod_eq_of_lt hx, Nat.mod_eq_of_lt hc, IntKind.wrap_u8]
  have : x ^^^ c < 2 ^ 8 := Nat.xor_lt_two_pow hx hc
  omega
/-- bytes turned as far as they are -/
def xrTo (b : Nat) (L : List Nat) (k : Nat) : List Nat := xr b (L.take k) ++ L.drop k
theorem xrTo_zero (b : Nat) (L : List Nat) : xrTo b L 0 = L := by simp [xrTo, xr]
theorem xrTo_end (b : Nat) (L : List Nat) (n : Nat) (h : L.length = n) : xrTo b L n = xr b L := by subst h; simp [xrTo]
theorem xr_len (b : Nat) (L : List Nat) : (xr b L).length = L.length := by simp [xr]
theorem xrTo_len (b : Nat) (L : List Nat) (k : Nat) (h : k ≤ L.length) : (xrTo b L k).length = L.length := by simp [xrTo, xr_len]; omega
theorem xrTo_at (b : Nat) (L : List Nat) (k : Nat) (h : k < L.length) : (xrTo b L k).getD k 0 = L.getD k 0 := by
  have h1 : (xr b (L.take k)).length = k := by rw [xr_len, List.length_take]; omega
  rw [xrTo, List.getD_eq_getElem?_getD, List.getD_eq_getElem?_getD, List.getElem?_append_right (by omega), h1, Nat.sub_self, List.getElem?_drop, Nat.add_zero]
theorem xrTo_set (b : Nat) (L : List Nat) (k : Nat) (h : k < L.length) : (xrTo b L k).set k (L.getD k 0 ^^^ b) = xrTo b L (k + 1) := by
  have h1 : (xr b (L.take k)).length = k := by rw [xr_len, List.length_take]; omega
  have h2 : L.drop k = L.getD k 0 :: L.drop (k + 1) := by
    rw [List.drop_eq_getElem_cons h, List.getD_eq_getElem?_getD, List.getElem?_eq_getElem h]; rfl
  have h3 : xr b (L.take (k + 1)) = xr b (L.take k) ++ [L.getD k 0 ^^^ b] := by
    unfold xr
    rw [List.take_add_one, List.getElem?_eq_getElem h, List.map_append, List.getD_eq_getElem?_getD, List.getElem?_eq_getElem h]
    rfl
  rw [xrTo, List.set_append_right _ _ (by omega), h1, Nat.sub_self, h2, List.set_cons_zero, xrTo, h3, List.append_assoc]
  rfl
theorem xr_lt {b : Nat} (hb : b < 256) {L : List Nat} (h : ∀ c ∈ L, c < 256) : ∀ c ∈ xr b L, c < 256 := by
  intro c hc
  obtain ⟨d, hd, rfl⟩ := List.mem_map.1 hc
  have : d ^^^ b < 2 ^ 8 := Nat.xor_lt_two_pow (h d hd) hb
  omega
theorem fill64_lt {k : List Nat} (h : ∀ c ∈ k, c < 256) : ∀ c ∈ fill64 k, c < 256 := by
  intro c hc
  rcases List.mem_append.1 hc with hc | hc
  · exact h c hc
  · rw [List.eq_of_mem_replicate hc]; decide
/-- bytes copied to the front of 64 zeros -/
theorem copy64 (w : World) (g : Nat) (A : Option Addr) (ca : Nat) (B : Nat) (k : List Nat) (hb : Blk w g 67 zk64) (hr : Rd w B A (byt k)) (hk : k.length ≤ 64) :
    ∃ w', (Builtin.copy_ #[22, 22] 3 #[.slice (some ⟨g, 0, none⟩) 64 64, .slice A k.length ca]).run Tryd.prog w = .ok (.int .i64 (k.length : Int)) w' ∧ Blk w' g 67 (vb (fill64 k)) ∧ (∀ n, n ≤ g → Below n w w') ∧ ∀ h T cs, h ≠ g → Blk w h T cs → Blk w' h T cs := by
  obtain ⟨i0, hi, hz0, hz1, hz2⟩ := info_parts byteInfo
  have hfill : (zk64.toList.take 0 ++ byt k ++ zk64.toList.drop (0 + (byt k).length)).toArray = vb (fill64 k) := by
    show (List.take 0 (byt (List.replicate 64 0)) ++ byt k ++ (byt (List.replicate 64 0)).drop (0 + (byt k).length)).toArray = (byt (fill64 k)).toArray
    rw [byt_len]
    congr 1
    rw [List.take_zero, List.nil_append, Nat.zero_add]
    unfold fill64 byt
    rw [List.map_append, List.map_replicate, List.map_replicate, List.drop_replicate]
  have hset : ∀ cs, Blk (w.setRow g cs) g 67 cs ∧ (∀ n, n ≤ g → Below n w (w.setRow g cs)) ∧ ∀ h T ds, h ≠ g → Blk w h T ds → Blk (w.setRow g cs) h T ds := fun cs =>
    ⟨setRow_heap _ _ _ _ _ (0, 0) hb, fun n hn => ⟨rfl, rfl, rfl, by simp [World.setRow], fun i hi => setRow_other _ _ i _ (by omega)⟩, fun h T ds hne hh => (setRow_other _ _ h _ hne).trans hh⟩
  by_cases hne : k = []
  · subst hne
    cases A with
    | none =>
      refine ⟨w, ?_, ?_, fun n hn => Below.refl _ _, fun _ _ _ _ h => h⟩
      · have h1 := run_copy_nil (P := Tryd.prog) w 22 22 3 5 ⟨g, 0, none⟩ 64 64 Tryd.underlying22 (by rw [hi]; rfl)
        refine Eq.trans ?_ h1
        simp [Builtin.copy_, run_underlying Tryd.underlying22, Builtin.lenOf, Builtin.firstCells]
      · exact hb
    | some a =>
      have h1 := run_copy_row (P := Tryd.prog) w 22 22 3 5 g 0 64 64 a 0 ca zk64 67 [] Tryd.underlying22 (by rw [hi]; simp [hz1]) hb rfl (fun j v h => by cases h) (by simp) (fun v h => by cases h)
      exact ⟨_, h1, by have := (hset (zk64.toList.take 0 ++ [] ++ zk64.toList.drop (0 + 0)).toArray).1; rw [← hfill]; exact this, (hset _).2⟩
  · obtain ⟨a, rfl, hab, hc⟩ := hr (by intro h0; have := congrArg List.length h0; rw [byt_len] at this; exact hne (List.eq_nil_of_length_eq_zero this))
    have h1 := run_copy_row (P := Tryd.prog) w 22 22 3 5 g 0 64 64 a k.length ca zk64 67 (byt k) Tryd.underlying22 (by rw [hi]; simp [hz1]) hb (by rw [byt_len]; exact (Nat.min_eq_left hk).symm) hc (by rw [byt_len]; show 0 + k.length ≤ 64; omega) (byt_one k)
    rw [hfill, byt_len] at h1
    exact ⟨_, h1, (hset _).1, (hset _).2⟩
structure MacS (w W : World) (g5 g6 : Nat) (L : List Nat) (k : Nat) : Prop where
  bel : Below w.heap.size w W
  h5 : Blk W g5 67 (vb (xrTo 54 L k))
  h6 : Blk W g6 67 (vb (xrTo 92 L k))
end Go.Proofs.YthlmlmkabjppeaaDoor
namespace Go.Proofs.YthlmlmkabjppeaaDoor
open Go.RowKit
set_option linter.unusedVariables false
set_option linter.unusedSimpArgs false
set_option maxRecDepth 100000 in
set_option maxHeartbeats 8000000 in
theorem macL_c (B C : Nat) (A D : Option Addr) (ca cb : Nat) (k m : List Nat) (w : World) (hk : Rd w B A (byt k)) (hm : Rd w C D (byt m)) (hB : B ≤ w.heap.size) (hC : C ≤ w.heap.size) (hkl : ∀ c ∈ k, c < 256) (hml : ∀ c ∈ m, c < 256) (hkn : k.length ≤ 8000) (hmn : m.length ≤ 8000) (hR : RoundsAt w) (hlong : 64 < k.length) :
    Calls Tryd.prog 13 #[.slice A k.length ca, .slice D m.length cb] w fun e w' => e = .returned (.agg (vb (mac k m))) ∧ Below w.heap.size w w' := by
  have HK := Lib.hid hk
  have HM := Lib.hid hm
  have HKL := Lib.hid hkl
  have HML := Lib.hid hml
  have HRO := Lib.hid hR
  have HMN := Lib.hid hmn
  clear hk hm hkl hml hR hmn
  have zf := zero_sum
  have zs1 : zSum.size = 32 := by rfl
  have zs2 : ¬ zSum = #[] := by intro h; have := congrArg Array.size h; rw [zs1] at this; cases this
  have zf6 := zero_k64
  have zs3 : zk64.size = 64 := by rfl
  have zs4 : ¬ zk64 = #[] := by intro h; have := congrArg Array.size h; rw [zs3] at this; cases this
  obtain ⟨Z, hZ⟩ : ∃ Z, Z = ((w.alloc (Obj.cells zSum 26)).alloc (Obj.cells zk64 67)).alloc (Obj.cells zk64 67) := ⟨_, rfl⟩
  have HZ := Lib.hid (show Below w.heap.size w Z by rw [hZ]; exact (((Below.refl _ _).alloc (Nat.le_refl _) _).alloc (by simp) _).alloc (by simp; omega) _)
  have H4Z := Lib.hid (show Blk Z w.heap.size 26 zSum by rw [hZ]; exact ((Blk.new w _ _).alloc _).alloc _)
  have H5Z := Lib.hid (show Blk Z (w.heap.size + 1) 67 zk64 by
    have h1 := Blk.new (w.alloc (Obj.cells zSum 26)) 67 zk64
    rw [show (w.alloc (Obj.cells zSum 26)).heap.size = w.heap.size + 1 by simp] at h1
    rw [hZ]; exact h1.alloc _)
  have H6Z := Lib.hid (show Blk Z (w.heap.size + 1 + 1) 67 zk64 by
    have h1 := Blk.new ((w.alloc (Obj.cells zSum 26)).alloc (Obj.cells zk64 67)) 67 zk64
    rw [show ((w.alloc (Obj.cells zSum 26)).alloc (Obj.cells zk64 67)).heap.size = w.heap.size + 1 + 1 by simp] at h1
    rw [hZ]; exact h1)
  have HIK := Lib.hid (show (Tryd.prog.info? 26).map (·.size) = some (vb (sha k)).size by rw [vb_size, sha_len]; kernel_rfl)
  have HSZ := Lib.hid (show Z.heap.size = w.heap.size + 1 + 1 + 1 by rw [hZ]; simp)
  have q1 : (64 : Int) < (k.length : Int) := by omega
  go_enter Tryd.func13, Tryd.ntmps13
  go_wp2_with fail
  rw [← hZ]
  have hof := (show ArrAt (Z.alloc (Obj.cells #[Value.slice A k.length ca] 22)) (.slice (some ⟨w.heap.size + 1 + 1 + 1, 0, none⟩) 1 1) 0 [(A, ca, k)] from ⟨_, rfl, Nat.zero_le _, by have := Blk.new Z 22 #[Value.slice A k.length ca]; rw [HSZ.out] at this; exact this⟩).of k (by show k ++ [] = k; rw [List.append_nil]) HKL.out (fun p hp => by
        rw [List.mem_singleton.1 hp]
        exact (HK.out.below ((HZ.out.mono hB).alloc (Nat.le_trans hB HZ.out.size) _)).more (Nat.le_trans hB (Nat.le_trans HZ.out.size (by simp)))) (by omega) (by simp) (HRO.out.next (HZ.out.alloc HZ.out.size _))
  have HOF := Lib.hid hof
  clear hof hZ
  go_upto_region 5 with (first
    | (go_at_call 21; (refine HOF.out.mono ?_); rintro e w1 ⟨rfl, hb⟩; have HB1 := Lib.hid hb; clear hb)
    | (refine wpList_store_rowTo rfl 26 (.tmp 7) (.tmp 15) rfl rfl w1.heap.size (vb (sha k)) rfl rfl 26 zSum (by exact Blk.new _ _ _) HIK.out (by rw [vb_size, sha_len]; rfl) (vb_one _) ?_; obtain ⟨X, hX⟩ : ∃ X, X = (w1.alloc (Obj.cells zSum 26)).setRow w1.heap.size (vb (sha k)) := ⟨_, rfl⟩; have hbx : Blk X w1.heap.size 26 (vb (sha k)) := (by rw [hX]; exact setRow_heap _ _ _ _ _ (0, 0) (Blk.new w1 _ _)); have hzx : Below Z.heap.size Z X := (by rw [hX]; exact ((((Below.refl _ _).alloc (Nat.le_refl _) _).trans (HB1.out.mono (by simp))).alloc (Nat.le_trans (by simp) HB1.out.size) _).trans ⟨rfl, rfl, rfl, by simp [World.setRow], fun i hi => setRow_other _ _ i _ (by have := HB1.out.size; simp at this; omega)⟩); rw [← hX]; clear hX))
  obtain ⟨kb, hkb⟩ : ∃ kb, kb = sha k := ⟨_, rfl⟩
  have hkb2 : keyB k = kb := by unfold keyB; rw [if_pos hlong, hkb]
  have HMAC := Lib.hid (show mac k m = sha (xr 92 (fill64 kb) ++ sha (xr 54 (fill64 kb) ++ m)) by unfold mac; rw [hkb2])
  have HX := Lib.hid (HZ.out.trans (hzx.mono HZ.out.size))
  have H4 := Lib.hid (H4Z.out.below hzx H4Z.out.lt)
  have H5 := Lib.hid (H5Z.out.below hzx H5Z.out.lt)
  have H6 := Lib.hid (H6Z.out.below hzx H6Z.out.lt)
  have hkl32 : kb.length = 32 := by rw [hkb, sha_len]
  obtain ⟨BK, hBK⟩ : ∃ BK, BK = w1.heap.size + 1 := ⟨_, rfl⟩
  have HKR := Lib.hid (show Rd X BK (some ⟨w1.heap.size, 0, none⟩) (byt kb) by rw [hkb, hBK]; exact rd_blk hbx _ 32 (by show byt _ = ((byt (sha k)).toArray.toList).take 32; rw [List.toList_toArray, List.take_of_length_le (by rw [byt_len, sha_len]; decide)]))
  have HK64 := Lib.hid (show kb.length ≤ 64 by omega)
  have HKB := Lib.hid (show ∀ c ∈ kb, c < 256 by rw [hkb]; exact sha_lt k)
  clear zf6 zs3 zs4 H4Z H5Z H6Z HOF HIK HSZ hzx hbx hkb hkb2 HZ HB1 q1
  rw [← hkl32]
  clear hkl32
  generalize w1.heap.size = g7 at *
  have hle : w.heap.size ≤ X.heap.size := HX.out.size
  obtain ⟨g4, hg4⟩ : ∃ g4, g4 = w.heap.size := ⟨_, rfl⟩
  obtain ⟨g5, hg5⟩ : ∃ g5, g5 = w.heap.size + 1 := ⟨_, rfl⟩
  obtain ⟨g6, hg6⟩ : ∃ g6, g6 = w.heap.size + 1 + 1 := ⟨_, rfl⟩
  rw [← hg5] at H5
  rw [← hg6] at H6
  rw [← hg4] at H4
  rw [← hg6, ← hg5]
  have n45 : g4 ≠ g5 := by omega
  have n46 : g4 ≠ g6 := by omega
  have n56 : g5 ≠ g6 := by omega
  have n65 : g6 ≠ g5 := by omega
  have l4 : w.heap.size ≤ g4 := by omega
  have l5 : w.heap.size ≤ g5 := by omega
  have l6 : w.heap.size ≤ g6 := by omega
  obtain ⟨X5, hcopy, h5, hb5, hoth⟩ := copy64 X g5 (some ⟨g7, 0, none⟩) kb.length BK kb H5.out HKR.out HK64.out
  have H45 := Lib.hid (hoth g4 _ _ n45 H4.out)
  have H55 := Lib.hid h5
  have H65 := Lib.hid (hoth g6 _ _ n65 H6.out)
  have HX5 := Lib.hid (HX.out.trans (hb5 _ l5))
  have HIF := Lib.hid (show (Tryd.prog.info? 67).map (·.size) = some (vb (fill64 kb)).size by rw [vb_size, fill64_len _ HK64.out]; exact info_k64)
  have HFL := Lib.hid (fill64_len kb HK64.out)
  have HFB := Lib.hid (fill64_lt HKB.out)
  have HLE := Lib.hid hle
  have HG4 := Lib.hid hg4
  clear h5 hb5 hoth H4 H5 H6 HX HK64 HKB hle hg4 hg5 hg6 HKR
  generalize fill64 kb = F at *
  go_wp2_with (first
    | (refine wpList_load_row rfl 67 (.tmp 5) rfl g5 rfl 67 (vb F) (0, 0) _ (by exact H55.out) Tryd.underlying67 rfl HIF.out ?_)
    | (refine wpList_store_rowTo rfl 67 (.tmp 6) (.tmp 20) rfl rfl g6 (vb F) rfl rfl 67 zk64 H65.out HIF.out (by rw [vb_size, HFL.out]; rfl) (vb_one _) ?_))
  obtain ⟨X6, hX6⟩ : ∃ X6, X6 = X5.setRow g6 (vb F) := ⟨_, rfl⟩
  have hm6 : MacS w X6 g5 g6 F 0 := by
    rw [hX6]
    refine ⟨HX5.out.trans ⟨rfl, rfl, rfl, by simp [World.setRow], fun i hi => setRow_other _ _ i _ (by omega)⟩, ?_, ?_⟩
    · rw [xrTo_zero]; exact (setRow_other _ _ g5 _ n56).trans H55.out
    · rw [xrTo_zero]; exact setRow_heap _ _ _ _ _ (0, 0) H65.out
  have HM6 := Lib.hid hm6
  have H46 := Lib.hid (show Blk X6 g4 26 zSum by rw [hX6]; exact (setRow_other _ _ g4 _ n46).trans H45.out)
  rw [← hX6]
  clear hX6 hm6 H45 H55 H65 HX5 HIF hcopy
  go_loopw [21] (fun i wr => ∃ k : Nat, k ≤ 64 ∧ i = .int .i64 (k : Int) ∧ MacS w wr g5 g6 F k ∧ Blk wr g4 26 zSum) (fun i _ => 64 - (intOf i).toNat)
  case atStart => exact ⟨0, by omega, rfl, HM6.out, H46.out⟩
  case round =>
    rename World => wo
    obtain ⟨i, hi, rfl, hs, h4⟩ := hrel
    have HS := Lib.hid hs
    have H4 := Lib.hid h4
    clear hs h4 HM6 H46
    by_cases hlt : i < 64
    · have hiF : i < F.length := by rw [HFL.out]; exact hlt
      have hf := getD_lt HFB.out i
      have c5 := HS.out.h5.cell i
      rw [vb_at _ i (by rw [xrTo_len _ _ _ (by omega)]; exact hiF), xrTo_at _ _ _ hiF] at c5
      have c6 := HS.out.h6.cell i
      rw [vb_at _ i (by rw [xrTo_len _ _ _ (by omega)]; exact hiF), xrTo_at _ _ _ hiF] at c6
      have s5 := xrTo_set 54 F i hiF
      have s6 := xrTo_set 92 F i hiF
      have x5 : bits BinOp.xor .u8 ((F.getD i 0 : Nat) : Int) 54 = ((F.getD i 0 ^^^ 54 : Nat) : Int) := u8_xor_nat (F.getD i 0) 54 hf (by decide)
      have x6 : bits BinOp.xor .u8 ((F.getD i 0 : Nat) : Int) 92 = ((F.getD i 0 ^^^ 92 : Nat) : Int) := u8_xor_nat (F.getD i 0) 92 hf (by decide)
      have HS5 := Lib.hid s5
      have HS6 := Lib.hid s6
      generalize F.getD i 0 = f at *
      generalize f ^^^ 54 = a at *
      generalize f ^^^ 92 = b at *
      have f5 := HS.out.h5.free i
      have h56 : Blk (wo.setCell ⟨g5, i, none⟩ (.int .u8 (a : Nat))) g6 67 (vb (xrTo 92 F i)) := HS.out.h6.far n65 _
      have c6' : (wo.setCell ⟨g5, i, none⟩ (.int .u8 (a : Nat))).cell? ⟨g6, i, none⟩ = some (.int .u8 (f : Nat)) := by
        rw [← c6, h56.cell, HS.out.h6.cell]
      have f6 := h56.free i
      have f6' := HS.out.h6.free i
      clear s5 s6
      have H56 := Lib.hid h56
      clear h56
      go_wp2_with fail
      refine ⟨⟨i + 1, by omega, by congr 1, ⟨(HS.out.bel.setCell l5 _).setCell l6 _, ?_, ?_⟩, ?_⟩, ?_⟩
      · rw [← HS5.out, ← vb_set]
        exact (HS.out.h5.set_ _ _).far n56 _
      · rw [← HS6.out, ← vb_set]
        exact H56.out.set_ _ _
      · exact (H4.out.far n45 _).far n46 _
      · simp only [intOf]; omega
    · obtain rfl : i = 64 := by omega
      have hI := HS.out.h5
      have hO := HS.out.h6
      rw [xrTo_end _ _ _ HFL.out] at hI hO
      have hIl : (xr 54 F).length = 64 := by rw [xr_len, HFL.out]
      have hOl : (xr 92 F).length = 64 := by rw [xr_len, HFL.out]
      have HIb := Lib.hid (xr_lt (by decide : 54 < 256) HFB.out)
      have HOb := Lib.hid (xr_lt (by decide : 92 < 256) HFB.out)
      have HBW := Lib.hid HS.out.bel
      have HI := Lib.hid hI
      have HO := Lib.hid hO
      have HIL := Lib.hid hIl
      have HOL := Lib.hid hOl
      clear hI hO hIl hOl HS HFB HFL
      generalize xr 54 F = I at *
      generalize xr 92 F = O at *
      have hof1 := (show ArrAt (wo.alloc (Obj.cells #[Value.slice (some ⟨g5, 0, none⟩) 64 64, Value.slice D m.length cb] 22)) (.slice (some ⟨wo.heap.size, 0, none⟩) 2 2) 0 [(some ⟨g5, 0, none⟩, 64, I), (D, cb, m)] from ⟨_, rfl, Nat.zero_le _, by
        have := Blk.new wo 22 #[Value.slice (some ⟨g5, 0, none⟩) 64 64, Value.slice D m.length cb]
        simpa [pv, HIL.out] using this⟩).of (I ++ m) (by show I ++ (m ++ []) = I ++ m; rw [List.append_nil]) (fun c hc => by
          rcases List.mem_append.1 hc with h | h
          · exact HIb.out c h
          · exact HML.out c h) (fun p hp => by
          simp only [List.mem_cons, List.not_mem_nil, or_false] at hp
          have hlw : wo.heap.size ≤ (wo.alloc (Obj.cells #[Value.slice (some ⟨g5, 0, none⟩) 64 64, Value.slice D m.length cb] 22)).heap.size := by simp
          rcases hp with rfl | rfl
          · have hlt := HI.out.lt
            exact ((rd_blk HI.out (byt I) 64 (by show byt I = ((byt I).toArray.toList).take 64; rw [List.toList_toArray, List.take_of_length_le (by rw [byt_len, HIL.out]; decide)])).below ((Below.refl _ _).alloc hlt _)).more (Nat.le_trans hlt hlw)
          · exact (HM.out.below ((HBW.out.mono hC).alloc (Nat.le_trans hC HBW.out.size) _)).more (Nat.le_trans hC (Nat.le_trans HBW.out.size hlw))) (by rw [List.length_append, HIL.out]; have := HMN.out; omega) (by simp) (HRO.out.next (HBW.out.alloc HBW.out.size _))
      have HOF1 := Lib.hid hof1
      have HSI := Lib.hid (show (Tryd.prog.info? 26).map (·.size) = some (vb (sha (I ++ m))).size by rw [vb_size, sha_len]; kernel_rfl)
      clear hof1
      go_upto_region 14 with (first
        | (go_at_call 21; (refine HOF1.out.mono ?_); rintro e w2 ⟨rfl, hb⟩; have HB2 := Lib.hid hb; clear hb)
        | (refine wpList_store_rowTo rfl 26 (.tmp 9) (.tmp 38) rfl rfl w2.heap.size (vb (sha (I ++ m))) rfl rfl 26 zSum (by exact Blk.new _ _ _) HSI.out (by rw [vb_size, sha_len]; rfl) (vb_one _) ?_))
      obtain ⟨Y, hY⟩ : ∃ Y, Y = (w2.alloc (Obj.cells zSum 26)).setRow w2.heap.size (vb (sha (I ++ m))) := ⟨_, rfl⟩
      have hwy : Below wo.heap.size wo Y := by
        have h0 := HB2.out.size
        simp at h0
        rw [hY]; exact ((((Below.refl _ _).alloc (Nat.le_refl _) _).trans (HB2.out.mono (by simp))).alloc (by omega) _).trans ⟨rfl, rfl, rfl, by simp [World.setRow], fun i hi => setRow_other _ _ i _ (by omega)⟩
      have H9 := Lib.hid (show Blk Y w2.heap.size 26 (vb (sha (I ++ m))) by rw [hY]; exact setRow_heap _ _ _ _ _ (0, 0) (Blk.new w2 _ _))
      have H4Y := Lib.hid (H4.out.below hwy H4.out.lt)
      have HOY := Lib.hid (HO.out.below hwy HO.out.lt)
      have HBY := Lib.hid (HBW.out.trans (hwy.mono HBW.out.size))
      have hsl := sha_lt (I ++ m)
      have hsn := sha_len (I ++ m)
      have HSL := Lib.hid hsl
      have HSN := Lib.hid hsn
      rw [← hY]
      clear hY hwy HOF1 HSI HB2 hsl hsn HI H4 HO
      generalize sha (I ++ m) = S1 at *
      generalize w2.heap.size = g9 at *
      refine wp_region_still_tail 2 (by kernel_rfl) (by kernel_rfl) ?_
      simp only [List.take_succ_cons, List.take_zero, List.drop_succ_cons, List.drop_zero]
      repeat still_step
      try refine wpStill_nil ?_
      change wpList _ _ _ _ _ Y.drew
      have hof2 := (show ArrAt (Y.drew.alloc (Obj.cells #[Value.slice (some ⟨g6, 0, none⟩) 64 64, Value.slice (some ⟨g9, 0, none⟩) 32 32] 22)) (.slice (some ⟨Y.heap.size, 0, none⟩) 2 2) 0 [(some ⟨g6, 0, none⟩, 64, O), (some ⟨g9, 0, none⟩, 32, S1)] from ⟨_, rfl, Nat.zero_le _, by
        have := Blk.new Y.drew 22 #[Value.slice (some ⟨g6, 0, none⟩) 64 64, Value.slice (some ⟨g9, 0, none⟩) 32 32]
        simpa [pv, HOL.out, HSN.out] using this⟩).of (O ++ S1) (by show O ++ (S1 ++ []) = O ++ S1; rw [List.append_nil]) (fun c hc => by
          rcases List.mem_append.1 hc with h | h
          · exact HOb.out c h
          · exact HSL.out c h) (fun p hp => by
          simp only [List.mem_cons, List.not_mem_nil, or_false] at hp
          have hlw : Y.heap.size ≤ (Y.drew.alloc (Obj.cells #[Value.slice (some ⟨g6, 0, none⟩) 64 64, Value.slice (some ⟨g9, 0, none⟩) 32 32] 22)).heap.size := by
            show Y.drew.heap.size ≤ _
            simp
          rcases hp with rfl | rfl
          · have hlt := HOY.out.lt
            exact ((rd_blk HOY.out (byt O) 64 (by show byt O = ((byt O).toArray.toList).take 64; rw [List.toList_toArray, List.take_of_length_le (by rw [byt_len, HOL.out]; decide)])).below ((Below.refl _ _).drew.alloc hlt _)).more (Nat.le_trans hlt hlw)
          · have hlt := H9.out.lt
            exact ((rd_blk H9.out (byt S1) 32 (by show byt S1 = ((byt S1).toArray.toList).take 32; rw [List.toList_toArray, List.take_of_length_le (by rw [byt_len, HSN.out]; decide)])).below ((Below.refl _ _).drew.alloc hlt _)).more (Nat.le_trans hlt hlw)) (by rw [List.length_append, HOL.out, HSN.out]; decide) (by simp) (HRO.out.next (HBY.out.drew.alloc HBY.out.size _))
      have HOF2 := Lib.hid hof2
      rw [← HMAC.out] at HOF2
      have HSM := Lib.hid (show (Tryd.prog.info? 26).map (·.size) = some (vb (mac k m)).size by rw [vb_size, mac_len]; kernel_rfl)
      clear hof2
      go_wp2_with (first
        | (go_at_call 21; (refine HOF2.out.mono ?_); rintro e w3 ⟨rfl, hb⟩; have HB3 := Lib.hid hb; clear hb; have H43 := Lib.hid (show Blk w3 w.heap.size 26 zSum from (by rw [← HG4.out]; exact H4Y.out.below ((((Below.refl _ _).drew).alloc (Nat.le_refl _) _).trans (HB3.out.mono (by show Y.drew.heap.size ≤ _; simp))) H4Y.out.lt)))
        | (refine wpList_store_rowTo rfl 26 (.tmp 4) (.tmp 42) rfl rfl w.heap.size (vb (mac k m)) rfl rfl 26 zSum H43.out HSM.out (by rw [vb_size, mac_len]; rfl) (vb_one _) ?_))
      first
        | rw [Exit.noGoto_ret]
        | skip
      refine bodyPost_ret (results_cell_row rfl _ _ w.heap.size 26 (vb (mac k m)) (0, 0) _ rfl (setRow_heap _ _ zSum _ 26 (0, 0) H43.out) Tryd.underlying26 rfl HSM.out) rfl ?_
      exact ⟨rfl, (HBY.out.trans (((((Below.refl _ _).drew).alloc (Nat.le_refl _) _).trans (HB3.out.mono (by show Y.drew.heap.size ≤ _; simp))).mono HBY.out.size)).trans ⟨rfl, rfl, rfl, by simp [World.setRow], fun i hi => setRow_other _ _ i _ (by omega)⟩⟩
set_option maxRecDepth 100000 in
set_option maxHeartbeats 8000000 in
theorem macS_c (B C : Nat) (A D : Option Addr) (ca cb : Nat) (k m : List Nat) (w : World) (hk : Rd w B A (byt k)) (hm : Rd w C D (byt m)) (hB : B ≤ w.heap.size) (hC : C ≤ w.heap.size) (hkl : ∀ c ∈ k, c < 256) (hml : ∀ c ∈ m, c < 256) (hkn : k.length ≤ 8000) (hmn : m.length ≤ 8000) (hR : RoundsAt w) (hlong : ¬ 64 < k.length) :
    Calls Tryd.prog 13 #[.slice A k.length ca, .slice D m.length cb] w fun e w' => e = .returned (.agg (vb (mac k m))) ∧ Below w.heap.size w w' := by
  have HK := Lib.hid hk
  have HM := Lib.hid hm
  have HKL := Lib.hid hkl
  have HML := Lib.hid hml
  have HRO := Lib.hid hR
  have HMN := Lib.hid hmn
  clear hk hm hkl hml hR hmn
  have zf := zero_sum
  have zs1 : zSum.size = 32 := by rfl
  have zs2 : ¬ zSum = #[] := by intro h; have := congrArg Array.size h; rw [zs1] at this; cases this
  have zf6 := zero_k64
  have zs3 : zk64.size = 64 := by rfl
  have zs4 : ¬ zk64 = #[] := by intro h; have := congrArg Array.size h; rw [zs3] at this; cases this
  obtain ⟨Z, hZ⟩ : ∃ Z, Z = ((w.alloc (Obj.cells zSum 26)).alloc (Obj.cells zk64 67)).alloc (Obj.cells zk64 67) := ⟨_, rfl⟩
  have HZ := Lib.hid (show Below w.heap.size w Z by rw [hZ]; exact (((Below.refl _ _).alloc (Nat.le_refl _) _).alloc (by simp) _).alloc (by simp; omega) _)
  have H4Z := Lib.hid (show Blk Z w.heap.size 26 zSum by rw [hZ]; exact ((Blk.new w _ _).alloc _).alloc _)
  have H5Z := Lib.hid (show Blk Z (w.heap.size + 1) 67 zk64 by
    have h1 := Blk.new (w.alloc (Obj.cells zSum 26)) 67 zk64
    rw [show (w.alloc (Obj.cells zSum 26)).heap.size = w.heap.size + 1 by simp] at h1
    rw [hZ]; exact h1.alloc _)
  have H6Z := Lib.hid (show Blk Z (w.heap.size + 1 + 1) 67 zk64 by
    have h1 := Blk.new ((w.alloc (Obj.cells zSum 26)).alloc (Obj.cells zk64 67)) 67 zk64
    rw [show ((w.alloc (Obj.cells zSum 26)).alloc (Obj.cells zk64 67)).heap.size = w.heap.size + 1 + 1 by simp] at h1
    rw [hZ]; exact h1)
  have q1 : ¬ (64 : Int) < (k.length : Int) := by omega
  go_enter Tryd.func13, Tryd.ntmps13
  go_upto_region 5 with fail
  rw [← hZ]
  clear hZ
  obtain ⟨X, hX⟩ : ∃ X, X = Z := ⟨_, rfl⟩
  rw [← hX] at HZ H4Z H5Z H6Z ⊢
  have HX := HZ
  have H4 := H4Z
  have H5 := H5Z
  have H6 := H6Z
  have hkb2 : keyB k = k := by unfold keyB; rw [if_neg hlong]
  have HMAC := Lib.hid (show mac k m = sha (xr 92 (fill64 k) ++ sha (xr 54 (fill64 k) ++ m)) by unfold mac; rw [hkb2])
  have HKR := Lib.hid (HK.out.below (HX.out.mono hB))
  have HK64 := Lib.hid (show k.length ≤ 64 by omega)
  have HKB := HKL
  clear zf6 zs3 zs4 H4Z H5Z H6Z HZ hX hkb2 q1
  have hle : w.heap.size ≤ X.heap.size := HX.out.size
  obtain ⟨g4, hg4⟩ : ∃ g4, g4 = w.heap.size := ⟨_, rfl⟩
  obtain ⟨g5, hg5⟩ : ∃ g5, g5 = w.heap.size + 1 := ⟨_, rfl⟩
  obtain ⟨g6, hg6⟩ : ∃ g6, g6 = w.heap.size + 1 + 1 := ⟨_, rfl⟩
  rw [← hg5] at H5
  rw [← hg6] at H6
  rw [← hg4] at H4
  rw [← hg6, ← hg5]
  have n45 : g4 ≠ g5 := by omega
  have n46 : g4 ≠ g6 := by omega
  have n56 : g5 ≠ g6 := by omega
  have n65 : g6 ≠ g5 := by omega
  have l4 : w.heap.size ≤ g4 := by omega
  have l5 : w.heap.size ≤ g5 := by omega
  have l6 : w.heap.size ≤ g6 := by omega
  obtain ⟨X5, hcopy, h5, hb5, hoth⟩ := copy64 X g5 A ca B k H5.out HKR.out HK64.out
  have H45 := Lib.hid (hoth g4 _ _ n45 H4.out)
  have H55 := Lib.hid h5
  have H65 := Lib.hid (hoth g6 _ _ n65 H6.out)
  have HX5 := Lib.hid (HX.out.trans (hb5 _ l5))
  have HIF := Lib.hid (show (Tryd.prog.info? 67).map (·.size) = some (vb (fill64 k)).size by rw [vb_size, fill64_len _ HK64.out]; exact info_k64)
  have HFL := Lib.hid (fill64_len k HK64.out)
  have HFB := Lib.hid (fill64_lt HKB.out)
  have HLE := Lib.hid hle
  have HG4 := Lib.hid hg4
  clear h5 hb5 hoth H4 H5 H6 HX HK64 HKB hle hg4 hg5 hg6 HKR
  generalize fill64 k = F at *
  go_wp2_with (first
    | (refine wpList_load_row rfl 67 (.tmp 5) rfl g5 rfl 67 (vb F) (0, 0) _ (by exact H55.out) Tryd.underlying67 rfl HIF.out ?_)
    | (refine wpList_store_rowTo rfl 67 (.tmp 6) (.tmp 20) rfl rfl g6 (vb F) rfl rfl 67 zk64 H65.out HIF.out (by rw [vb_size, HFL.out]; rfl) (vb_one _) ?_))
  obtain ⟨X6, hX6⟩ : ∃ X6, X6 = X5.setRow g6 (vb F) := ⟨_, rfl⟩
  have hm6 : MacS w X6 g5 g6 F 0 := by
    rw [hX6]
    refine ⟨HX5.out.trans ⟨rfl, rfl, rfl, by simp [World.setRow], fun i hi => setRow_other _ _ i _ (by omega)⟩, ?_, ?_⟩
    · rw [xrTo_zero]; exact (setRow_other _ _ g5 _ n56).trans H55.out
    · rw [xrTo_zero]; exact setRow_heap _ _ _ _ _ (0, 0) H65.out
  have HM6 := Lib.hid hm6
  have H46 := Lib.hid (show Blk X6 g4 26 zSum by rw [hX6]; exact (setRow_other _ _ g4 _ n46).trans H45.out)
  rw [← hX6]
  clear hX6 hm6 H45 H55 H65 HX5 HIF hcopy
  go_loopw [21] (fun i wr => ∃ k : Nat, k ≤ 64 ∧ i = .int .i64 (k : Int) ∧ MacS w wr g5 g6 F k ∧ Blk wr g4 26 zSum) (fun i _ => 64 - (intOf i).toNat)
  case atStart => exact ⟨0, by omega, rfl, HM6.out, H46.out⟩
  case round =>
    rename World => wo
    obtain ⟨i, hi, rfl, hs, h4⟩ := hrel
    have HS := Lib.hid hs
    have H4 := Lib.hid h4
    clear hs h4 HM6 H46
    by_cases hlt : i < 64
    · have hiF : i < F.length := by rw [HFL.out]; exact hlt
      have hf := getD_lt HFB.out i
      have c5 := HS.out.h5.cell i
      rw [vb_at _ i (by rw [xrTo_len _ _ _ (by omega)]; exact hiF), xrTo_at _ _ _ hiF] at c5
      have c6 := HS.out.h6.cell i
      rw [vb_at _ i (by rw [xrTo_len _ _ _ (by omega)]; exact hiF), xrTo_at _ _ _ hiF] at c6
      have s5 := xrTo_set 54 F i hiF
      have s6 := xrTo_set 92 F i hiF
      have x5 : bits BinOp.xor .u8 ((F.getD i 0 : Nat) : Int) 54 = ((F.getD i 0 ^^^ 54 : Nat) : Int) := u8_xor_nat (F.getD i 0) 54 hf (by decide)
      have x6 : bits BinOp.xor .u8 ((F.getD i 0 : Nat) : Int) 92 = ((F.getD i 0 ^^^ 92 : Nat) : Int) := u8_xor_nat (F.getD i 0) 92 hf (by decide)
      have HS5 := Lib.hid s5
      have HS6 := Lib.hid s6
      generalize F.getD i 0 = f at *
      generalize f ^^^ 54 = a at *
      generalize f ^^^ 92 = b at *
      have f5 := HS.out.h5.free i
      have h56 : Blk (wo.setCell ⟨g5, i, none⟩ (.int .u8 (a : Nat))) g6 67 (vb (xrTo 92 F i)) := HS.out.h6.far n65 _
      have c6' : (wo.setCell ⟨g5, i, none⟩ (.int .u8 (a : Nat))).cell? ⟨g6, i, none⟩ = some (.int .u8 (f : Nat)) := by
        rw [← c6, h56.cell, HS.out.h6.cell]
      have f6 := h56.free i
      have f6' := HS.out.h6.free i
      clear s5 s6
      have H56 := Lib.hid h56
      clear h56
      go_wp2_with fail
      refine ⟨⟨i + 1, by omega, by congr 1, ⟨(HS.out.bel.setCell l5 _).setCell l6 _, ?_, ?_⟩, ?_⟩, ?_⟩
      · rw [← HS5.out, ← vb_set]
        exact (HS.out.h5.set_ _ _).far n56 _
      · rw [← HS6.out, ← vb_set]
        exact H56.out.set_ _ _
      · exact (H4.out.far n45 _).far n46 _
      · simp only [intOf]; omega
    · obtain rfl : i = 64 := by omega
      have hI := HS.out.h5
      have hO := HS.out.h6
      rw [xrTo_end _ _ _ HFL.out] at hI hO
      have hIl : (xr 54 F).length = 64 := by rw [xr_len, HFL.out]
      have hOl : (xr 92 F).length = 64 := by rw [xr_len, HFL.out]
      have HIb := Lib.hid (xr_lt (by decide : 54 < 256) HFB.out)
      have HOb := Lib.hid (xr_lt (by decide : 92 < 256) HFB.out)
      have HBW := Lib.hid HS.out.bel
      have HI := Lib.hid hI
      have HO := Lib.hid hO
      have HIL := Lib.hid hIl
      have HOL := Lib.hid hOl
      clear hI hO hIl hOl HS HFB HFL
      generalize xr 54 F = I at *
      generalize xr 92 F = O at *
      have hof1 := (show ArrAt (wo.alloc (Obj.cells #[Value.slice (some ⟨g5, 0, none⟩) 64 64, Value.slice D m.length cb] 22)) (.slice (some ⟨wo.heap.size, 0, none⟩) 2 2) 0 [(some ⟨g5, 0, none⟩, 64, I), (D, cb, m)] from ⟨_, rfl, Nat.zero_le _, by
        have := Blk.new wo 22 #[Value.slice (some ⟨g5, 0, none⟩) 64 64, Value.slice D m.length cb]
        simpa [pv, HIL.out] using this⟩).of (I ++ m) (by show I ++ (m ++ []) = I ++ m; rw [List.append_nil]) (fun c hc => by
          rcases List.mem_append.1 hc with h | h
          · exact HIb.out c h
          · exact HML.out c h) (fun p hp => by
          simp only [List.mem_cons, List.not_mem_nil, or_false] at hp
          have hlw : wo.heap.size ≤ (wo.alloc (Obj.cells #[Value.slice (some ⟨g5, 0, none⟩) 64 64, Value.slice D m.length cb] 22)).heap.size := by simp
          rcases hp with rfl | rfl
          · have hlt := HI.out.lt
            exact ((rd_blk HI.out (byt I) 64 (by show byt I = ((byt I).toArray.toList).take 64; rw [List.toList_toArray, List.take_of_length_le (by rw [byt_len, HIL.out]; decide)])).below ((Below.refl _ _).alloc hlt _)).more (Nat.le_trans hlt hlw)
          · exact (HM.out.below ((HBW.out.mono hC).alloc (Nat.le_trans hC HBW.out.size) _)).more (Nat.le_trans hC (Nat.le_trans HBW.out.size hlw))) (by rw [List.length_append, HIL.out]; have := HMN.out; omega) (by simp) (HRO.out.next (HBW.out.alloc HBW.out.size _))
      have HOF1 := Lib.hid hof1
      have HSI := Lib.hid (show (Tryd.prog.info? 26).map (·.size) = some (vb (sha (I ++ m))).size by rw [vb_size, sha_len]; kernel_rfl)
      clear hof1
      go_upto_region 14 with (first
        | (go_at_call 21; (refine HOF1.out.mono ?_); rintro e w2 ⟨rfl, hb⟩; have HB2 := Lib.hid hb; clear hb)
        | (refine wpList_store_rowTo rfl 26 (.tmp 9) (.tmp 38) rfl rfl w2.heap.size (vb (sha (I ++ m))) rfl rfl 26 zSum (by exact Blk.new _ _ _) HSI.out (by rw [vb_size, sha_len]; rfl) (vb_one _) ?_))
      obtain ⟨Y, hY⟩ : ∃ Y, Y = (w2.alloc (Obj.cells zSum 26)).setRow w2.heap.size (vb (sha (I ++ m))) := ⟨_, rfl⟩
      have hwy : Below wo.heap.size wo Y := by
        have h0 := HB2.out.size
        simp at h0
        rw [hY]; exact ((((Below.refl _ _).alloc (Nat.le_refl _) _).trans (HB2.out.mono (by simp))).alloc (by omega) _).trans ⟨rfl, rfl, rfl, by simp [World.setRow], fun i hi => setRow_other _ _ i _ (by omega)⟩
      have H9 := Lib.hid (show Blk Y w2.heap.size 26 (vb (sha (I ++ m))) by rw [hY]; exact setRow_heap _ _ _ _ _ (0, 0) (Blk.new w2 _ _))
      have H4Y := Lib.hid (H4.out.below hwy H4.out.lt)
      have HOY := Lib.hid (HO.out.below hwy HO.out.lt)
      have HBY := Lib.hid (HBW.out.trans (hwy.mono HBW.out.size))
      have hsl := sha_lt (I ++ m)
      have hsn := sha_len (I ++ m)
      have HSL := Lib.hid hsl
      have HSN := Lib.hid hsn
      rw [← hY]
      clear hY hwy HOF1 HSI HB2 hsl hsn HI H4 HO
      generalize sha (I ++ m) = S1 at *
      generalize w2.heap.size = g9 at *
      refine wp_region_still_tail 2 (by kernel_rfl) (by kernel_rfl) ?_
      simp only [List.take_succ_cons, List.take_zero, List.drop_succ_cons, List.drop_zero]
      repeat still_step
      try refine wpStill_nil ?_
      change wpList _ _ _ _ _ Y.drew
      have hof2 := (show ArrAt (Y.drew.alloc (Obj.cells #[Value.slice (some ⟨g6, 0, none⟩) 64 64, Value.slice (some ⟨g9, 0, none⟩) 32 32] 22)) (.slice (some ⟨Y.heap.size, 0, none⟩) 2 2) 0 [(some ⟨g6, 0, none⟩, 64, O), (some ⟨g9, 0, none⟩, 32, S1)] from ⟨_, rfl, Nat.zero_le _, by
        have := Blk.new Y.drew 22 #[Value.slice (some ⟨g6, 0, none⟩) 64 64, Value.slice (some ⟨g9, 0, none⟩) 32 32]
        simpa [pv, HOL.out, HSN.out] using this⟩).of (O ++ S1) (by show O ++ (S1 ++ []) = O ++ S1; rw [List.append_nil]) (fun c hc => by
          rcases List.mem_append.1 hc with h | h
          · exact HOb.out c h
          · exact HSL.out c h) (fun p hp => by
          simp only [List.mem_cons, List.not_mem_nil, or_false] at hp
          have hlw : Y.heap.size ≤ (Y.drew.alloc (Obj.cells #[Value.slice (some ⟨g6, 0, none⟩) 64 64, Value.slice (some ⟨g9, 0, none⟩) 32 32] 22)).heap.size := by
            show Y.drew.heap.size ≤ _
            simp
          rcases hp with rfl | rfl
          · have hlt := HOY.out.lt
            exact ((rd_blk HOY.out (byt O) 64 (by show byt O = ((byt O).toArray.toList).take 64; rw [List.toList_toArray, List.take_of_length_le (by rw [byt_len, HOL.out]; decide)])).below ((Below.refl _ _).drew.alloc hlt _)).more (Nat.le_trans hlt hlw)
          · have hlt := H9.out.lt
            exact ((rd_blk H9.out (byt S1) 32 (by show byt S1 = ((byt S1).toArray.toList).take 32; rw [List.toList_toArray, List.take_of_length_le (by rw [byt_len, HSN.out]; decide)])).below ((Below.refl _ _).drew.alloc hlt _)).more (Nat.le_trans hlt hlw)) (by rw [List.length_append, HOL.out, HSN.out]; decide) (by simp) (HRO.out.next (HBY.out.drew.alloc HBY.out.size _))
      have HOF2 := Lib.hid hof2
      rw [← HMAC.out] at HOF2
      have HSM := Lib.hid (show (Tryd.prog.info? 26).map (·.size) = some (vb (mac k m)).size by rw [vb_size, mac_len]; kernel_rfl)
      clear hof2
      go_wp2_with (first
        | (go_at_call 21; (refine HOF2.out.mono ?_); rintro e w3 ⟨rfl, hb⟩; have HB3 := Lib.hid hb; clear hb; have H43 := Lib.hid (show Blk w3 w.heap.size 26 zSum from (by rw [← HG4.out]; exact H4Y.out.below ((((Below.refl _ _).drew).alloc (Nat.le_refl _) _).trans (HB3.out.mono (by show Y.drew.heap.size ≤ _; simp))) H4Y.out.lt)))
        | (refine wpList_store_rowTo rfl 26 (.tmp 4) (.tmp 42) rfl rfl w.heap.size (vb (mac k m)) rfl rfl 26 zSum H43.out HSM.out (by rw [vb_size, mac_len]; rfl) (vb_one _) ?_))
      first
        | rw [Exit.noGoto_ret]
        | skip
      refine bodyPost_ret (results_cell_row rfl _ _ w.heap.size 26 (vb (mac k m)) (0, 0) _ rfl (setRow_heap _ _ zSum _ 26 (0, 0) H43.out) Tryd.underlying26 rfl HSM.out) rfl ?_
      exact ⟨rfl, (HBY.out.trans (((((Below.refl _ _).drew).alloc (Nat.le_refl _) _).trans (HB3.out.mono (by show Y.drew.heap.size ≤ _; simp))).mono HBY.out.size)).trans ⟨rfl, rfl, rfl, by simp [World.setRow], fun i hi => setRow_other _ _ i _ (by omega)⟩⟩
theorem mac_c (B C : Nat) (A D : Option Addr) (ca cb : Nat) (k m : List Nat) (w : World) (hk : Rd w B A (byt k)) (hm : Rd w C D (byt m)) (hB : B ≤ w.heap.size) (hC : C ≤ w.heap.size) (hkl : ∀ c ∈ k, c < 256) (hml : ∀ c ∈ m, c < 256) (hkn : k.length ≤ 8000) (hmn : m.length ≤ 8000) (hR : RoundsAt w) :
    Calls Tryd.prog 13 #[.slice A k.length ca, .slice D m.length cb] w fun e w' => e = .returned (.agg (vb (mac k m))) ∧ Below w.heap.size w w' := by
  by_cases h : 64 < k.length
  · exact macL_c B C A D ca cb k m w hk hm hB hC hkl hml hkn hmn hR h
  · exact macS_c B C A D ca cb k m w hk hm hB hC hkl hml hkn hmn hR h
end Go.Proofs.YthlmlmkabjppeaaDoor
namespace Go.Proofs.YthlmlmkabjppeaaDoor
open Go.RowKit
set_option linter.unusedVariables false
set_option linter.unusedSimpArgs false
def Sep (u v : Value) : Prop := ∀ g, u.ownBlock = some g → v.ownBlock ≠ some g
theorem own_base_le {w : World} {base base' : Nat} {e : TypeId} {size n : Nat} {v : Value} {xs : List Value} (h : w.ownsRow base e size v n xs) (hb : base' ≤ base) : w.ownsRow base' e size v n xs :=
  ⟨h.1, h.2.elim Or.inl (fun ⟨g, cap, cur, hv, hg, r⟩ => Or.inr ⟨g, cap, cur, hv, Nat.le_trans hb hg, r⟩)⟩
theorem Sep.symm {u v : Value} (h : Sep u v) : Sep v u := fun g h1 h2 => h g h2 h1
/-- two rows of bytes, apart -/
structure Own2 (w : World) (base : Nat) (a : Value) (la : List Nat) (b : Value) (lb : List Nat) : Prop where
  oa : OwnB w base a la
  ob : OwnB w base b lb
  ab : Sep a b
theorem Own2.rot {w : World} {base : Nat} {a b : Value} {la lb : List Nat} (h : Own2 w base a la b lb) : Own2 w base b lb a la := ⟨h.ob, h.oa, h.ab.symm⟩
theorem Own2.alloc {w : World} {base : Nat} {a b : Value} {la lb : List Nat} (h : Own2 w base a la b lb) (o : Obj) : Own2 (w.alloc o) base a la b lb := ⟨h.oa.alloc o, h.ob.alloc o, h.ab⟩
theorem Own2.keep {w w' : World} {base : Nat} {a b : Value} {la lb : List Nat} (h : Own2 w base a la b lb) (hb : Below w.heap.size w w') : Own2 w' base a la b lb := ⟨h.oa.next hb, h.ob.next hb, h.ab⟩
theorem Own2.app {w w' : World} {base : Nat} {a b a' : Value} {la lb new : List Nat} (h : Own2 w base a la b lb) (hap : Apped w base 5 1 a w' a' (la.length + new.length) (byt la ++ byt new)) : Own2 w' base a' (la ++ new) b lb := by
  have ho : Only (fun k => a.ownBlock = some k) w w' := hap.only (fun g h => h)
  refine ⟨OwnB.app hap, own_keep h.ob ho (fun g h1 h2 => h.ab g h2 h1), ?_⟩
  intro g hg hg2
  rcases hap.lies with h1 | h1
  · exact h.ab g (h1 ▸ hg) hg2
  · rw [h1] at hg
    injection hg with hg
    have := own_lt h.ob g hg2
    omega
theorem Own2.snoc {w w' : World} {base : Nat} {a b a' : Value} {la lb : List Nat} {c : Nat} (h : Own2 w base a la b lb) (hap : Apped w base 5 1 a w' a' (la.length + 1) (byt la ++ [.int .u8 (c : Nat)])) : Own2 w' base a' (la ++ [c]) b lb := h.app (new := [c]) hap
theorem Own2.nil_ (w : World) (base : Nat) : Own2 w base (.slice none 0 0) [] (.slice none 0 0) [] := ⟨OwnB.nil_ _ _, OwnB.nil_ _ _, fun g h => by cases h⟩
theorem xr_take_succ (b : Nat) (F : List Nat) (i : Nat) (h : i < F.length) : xr b (F.take (i + 1)) = xr b (F.take i) ++ [F.getD i 0 ^^^ b] := by
  unfold xr
  rw [List.take_add_one, List.getElem?_eq_getElem h, List.map_append, List.getD_eq_getElem?_getD, List.getElem?_eq_getElem h]
  rfl
theorem fill64_at (k : List Nat) (i : Nat) (h : i < k.length) : (fill64 k).getD i 0 = k.getD i 0 := by
  unfold fill64
  rw [List.getD_eq_getElem?_getD, List.getElem?_append_left h, List.getD_eq_getElem?_getD]
theorem fill64_far (k : List Nat) (i : Nat) (h : ¬ i < k.length) : (fill64 k).getD i 0 = 0 := by
  unfold fill64
  rw [List.getD_eq_getElem?_getD, List.getElem?_append_right (by omega), List.getElem?_replicate]
  split <;> rfl
set_option maxRecDepth 100000 in
set_option maxHeartbeats 8000000 in
theorem rmacS_c (B C : Nat) (A D : Option Addr) (ca cb : Nat) (k m : List Nat) (w : World) (hk : Rd w B A (byt k)) (hm : Rd w C D (byt m)) (hB : B ≤ w.heap.size) (hC : C ≤ w.heap.size) (hkl : ∀ c ∈ k, c < 256) (hml : ∀ c ∈ m, c < 256) (hkn : k.length ≤ 8000) (hmn : m.length ≤ 8000) (hlong : ¬ 64 < k.length) :
    Calls Tryd.prog 16 #[.slice A k.length ca, .slice D m.length cb] w fun e w' => ∃ v, e = .returned v ∧ OwnB w' w.heap.size v (mac k m) ∧ Below w.heap.size w w' := by
  obtain ⟨i0, hi, hz0, hz1, hz2⟩ := info_parts byteInfo
  have HK := Lib.hid hk
  have HM := Lib.hid hm
  have HKL := Lib.hid hkl
  have HML := Lib.hid hml
  have HMN := Lib.hid hmn
  clear hk hm hkl hml hmn
  have zf := zero_sum
  have zs1 : zSum.size = 32 := by rfl
  have zs2 : ¬ zSum = #[] := by intro h; have := congrArg Array.size h; rw [zs1] at this; cases this
  have q1 : ¬ (64 : Int) < (k.length : Int) := by omega
  go_enter Tryd.func16, Tryd.ntmps16
  go_wp2_with fail
  obtain ⟨X, hX⟩ : ∃ X, X = w := ⟨_, rfl⟩
  rw [← hX]
  have HX := Lib.hid (show Below w.heap.size w X by rw [hX]; exact Below.refl _ _)
  have hkb2 : keyB k = k := by unfold keyB; rw [if_neg hlong]
  have HMAC := Lib.hid (show mac k m = sha (xr 92 (fill64 k) ++ sha (xr 54 (fill64 k) ++ m)) by unfold mac; rw [hkb2])
  have HKR := Lib.hid (show Rd X B A (byt k) by rw [hX]; exact HK.out)
  have BKle := Lib.hid (show B ≤ X.heap.size by rw [hX]; exact hB)
  have HK64 := Lib.hid (show k.length ≤ 64 by omega)
  have HKB := HKL
  clear hX hkb2 q1
  have HWX := Lib.hid HX.out.size
  have HFL := Lib.hid (fill64_len k HK64.out)
  have HFB := Lib.hid (fill64_lt HKB.out)
  have HFA := Lib.hid (fun i (h : i < k.length) => fill64_at k i h)
  have HFN := Lib.hid (fun i (h : ¬ i < k.length) => fill64_far k i h)
  generalize fill64 k = F at *
  go_loopw [6, 7, 8] (fun va vb' vi wr => ∃ i : Nat, i ≤ 64 ∧ vi = .int .i64 (i : Int) ∧ Own2 wr X.heap.size va (xr 92 (F.take i)) vb' (xr 54 (F.take i)) ∧ Below X.heap.size X wr) (fun _ _ vi _ => 64 - (intOf vi).toNat)
  case atStart => exact ⟨0, by omega, rfl, Own2.nil_ _ _, Below.refl _ _⟩
  case round =>
    rename World => wr
    obtain ⟨i, hi64, rfl, ho, hb⟩ := hrel
    have HO := Lib.hid ho
    have HB := Lib.hid hb
    clear ho hb
    by_cases hlt : i < 64
    · have hiF : i < F.length := by rw [HFL.out]; exact hlt
      have hf := getD_lt HFB.out i
      have HT92 := Lib.hid (xr_take_succ 92 F i hiF)
      have HT54 := Lib.hid (xr_take_succ 54 F i hiF)
      have HL92 := Lib.hid (show (xr 92 (F.take i)).length = i by rw [xr_len, List.length_take]; omega)
      have HL54 := Lib.hid (show (xr 54 (F.take i)).length = i by rw [xr_len, List.length_take]; omega)
      have x5 : bits BinOp.xor .u8 ((F.getD i 0 : Nat) : Int) 54 = ((F.getD i 0 ^^^ 54 : Nat) : Int) := u8_xor_nat (F.getD i 0) 54 hf (by decide)
      have x6 : bits BinOp.xor .u8 ((F.getD i 0 : Nat) : Int) 92 = ((F.getD i 0 ^^^ 92 : Nat) : Int) := u8_xor_nat (F.getD i 0) 92 hf (by decide)
      obtain ⟨A6, k6, rfl, _, _, _⟩ := HO.out.oa.rd
      obtain ⟨A7, k7, rfl, _, _, _⟩ := HO.out.ob.rd
      by_cases hik : i < k.length
      · have hfa := HFA.out i hik
        rw [hfa] at x5 x6 HT92 HT54 hf
        obtain ⟨ad, eAD, hab, hc⟩ := HKR.out.byte hik
        subst eAD
        have q0 : wr.cell? (ad.add i) = some (.int .u8 (k.getD i 0 : Nat)) := (HB.out.cell (p := ad.add i) (by rw [add_block]; exact Nat.lt_of_lt_of_le hab BKle.out)).trans hc
        clear hc hfa
        generalize k.getD i 0 = f at *
        generalize f ^^^ 92 = f92 at *
        generalize f ^^^ 54 = f54 at *
        go_wp2_with (first
          | (at_builtin; refine wpList_app _ rfl (.tmp 32) (.tmp 35) _ rfl X.heap.size 5 i0 (.int .u8 0) 1 1 Tryd.underlying22 hi hz0 hz1 hz2 rfl (by decide) _ _ _ rfl (HO.out.alloc _).oa _ _ 1 1 [.int .u8 (f92 : Nat)] rfl rfl (by exact rd_one _ _ _) (byt_one [f92]) (by have := HL92.out; omega) (by have := HL92.out; omega) (by have := HB.out.size; simp; omega) ?_; intro v1 w1 hap; have HO1 := Lib.hid ((HO.out.alloc _).snoc hap); have HB1 := Lib.hid (show Below X.heap.size X w1 from (HB.out.alloc HB.out.size _).trans (hap.below (HO.out.alloc _).oa (by have := HB.out.size; simp; omega))); clear hap)
          | (at_builtin; refine wpList_app _ rfl (.tmp 37) (.tmp 40) _ rfl X.heap.size 5 i0 (.int .u8 0) 1 1 Tryd.underlying22 hi hz0 hz1 hz2 rfl (by decide) _ _ _ rfl (HO1.out.rot.alloc _).oa _ _ 1 1 [.int .u8 (f54 : Nat)] rfl rfl (by exact rd_one _ _ _) (byt_one [f54]) (by have := HL54.out; omega) (by have := HL54.out; omega) (by have := HB1.out.size; simp; omega) ?_; intro v2 w2 hap; have HO2 := Lib.hid ((HO1.out.rot.alloc _).snoc hap).rot; have HB2 := Lib.hid (show Below X.heap.size X w2 from (HB1.out.alloc HB1.out.size _).trans (hap.below (HO1.out.rot.alloc _).oa (by have := HB1.out.size; simp; omega))); clear hap))
        refine ⟨⟨i + 1, by omega, by congr 1, by rw [HT92.out, HT54.out]; exact HO2.out, HB2.out⟩, ?_⟩
        simp only [intOf]; omega
      · have hfa := HFN.out i hik
        rw [hfa] at x5 x6 HT92 HT54 hf
        clear hfa
        have x5' : bits BinOp.xor .u8 0 54 = ((0 ^^^ 54 : Nat) : Int) := x5
        have x6' : bits BinOp.xor .u8 0 92 = ((0 ^^^ 92 : Nat) : Int) := x6
        clear x5 x6
        generalize (0 ^^^ 92 : Nat) = f92 at *
        generalize (0 ^^^ 54 : Nat) = f54 at *
        go_wp2_with (first
          | (at_builtin; refine wpList_app _ rfl (.tmp 32) (.tmp 35) _ rfl X.heap.size 5 i0 (.int .u8 0) 1 1 Tryd.underlying22 hi hz0 hz1 hz2 rfl (by decide) _ _ _ rfl (HO.out.alloc _).oa _ _ 1 1 [.int .u8 (f92 : Nat)] rfl rfl (by exact rd_one _ _ _) (byt_one [f92]) (by have := HL92.out; omega) (by have := HL92.out; omega) (by have := HB.out.size; simp; omega) ?_; intro v1 w1 hap; have HO1 := Lib.hid ((HO.out.alloc _).snoc hap); have HB1 := Lib.hid (show Below X.heap.size X w1 from (HB.out.alloc HB.out.size _).trans (hap.below (HO.out.alloc _).oa (by have := HB.out.size; simp; omega))); clear hap)
          | (at_builtin; refine wpList_app _ rfl (.tmp 37) (.tmp 40) _ rfl X.heap.size 5 i0 (.int .u8 0) 1 1 Tryd.underlying22 hi hz0 hz1 hz2 rfl (by decide) _ _ _ rfl (HO1.out.rot.alloc _).oa _ _ 1 1 [.int .u8 (f54 : Nat)] rfl rfl (by exact rd_one _ _ _) (byt_one [f54]) (by have := HL54.out; omega) (by have := HL54.out; omega) (by have := HB1.out.size; simp; omega) ?_; intro v2 w2 hap; have HO2 := Lib.hid ((HO1.out.rot.alloc _).snoc hap).rot; have HB2 := Lib.hid (show Below X.heap.size X w2 from (HB1.out.alloc HB1.out.size _).trans (hap.below (HO1.out.rot.alloc _).oa (by have := HB1.out.size; simp; omega))); clear hap))
        refine ⟨⟨i + 1, by omega, by congr 1, by rw [HT92.out, HT54.out]; exact HO2.out, HB2.out⟩, ?_⟩
        simp only [intOf]; omega
    · obtain rfl : i = 64 := by omega
      have ho := HO.out
      rw [List.take_of_length_le (by rw [HFL.out]; decide)] at ho
      have HIb := Lib.hid (xr_lt (by decide : 54 < 256) HFB.out)
      have HOb := Lib.hid (xr_lt (by decide : 92 < 256) HFB.out)
      have HIL := Lib.hid (show (xr 54 F).length = 64 by rw [xr_len, HFL.out])
      have HOL := Lib.hid (show (xr 92 F).length = 64 by rw [xr_len, HFL.out])
      clear HO HFB HFL HFA HFN HKR HKB HK64 BKle
      generalize xr 54 F = I at *
      generalize xr 92 F = O at *
      have HO := Lib.hid ho
      clear ho
      have HMW := Lib.hid (show Rd wr C D (byt m) from (HM.out.below (HX.out.mono hC)).below (HB.out.mono (Nat.le_trans hC HX.out.size)))
      have HXW := Lib.hid (show Below w.heap.size w wr from HX.out.trans (HB.out.mono HX.out.size))
      have HBX := Lib.hid (show X.heap.size ≤ wr.heap.size from HB.out.size)
      obtain ⟨J, hJ⟩ : ∃ J, J = I ++ m := ⟨_, rfl⟩
      obtain ⟨S1, hS1⟩ : ∃ S1, S1 = sha J := ⟨_, rfl⟩
      obtain ⟨P, hP⟩ : ∃ P, P = O ++ S1 := ⟨_, rfl⟩
      obtain ⟨M, hM⟩ : ∃ M, M = mac k m := ⟨_, rfl⟩
      have HJ := Lib.hid hJ
      have HP := Lib.hid hP
      have HM2 := Lib.hid hM
      have HS1 := Lib.hid hS1.symm
      have HMS := Lib.hid (show sha P = M by rw [hM, HMAC.out, hP, hS1, hJ])
      have HSN := Lib.hid (show S1.length = 32 by rw [hS1, sha_len])
      have HMNN := Lib.hid (show M.length = 32 by rw [hM, mac_len])
      have HSLT := Lib.hid (show ∀ c ∈ S1, c < 256 by rw [hS1]; exact sha_lt _)
      clear hJ hS1 hP hM HMAC
      have HSI := Lib.hid (show (Tryd.prog.info? 26).map (·.size) = some (vb S1).size by rw [vb_size, HSN.out]; kernel_rfl)
      have HSM := Lib.hid (show (Tryd.prog.info? 26).map (·.size) = some (vb M).size by rw [vb_size, HMNN.out]; kernel_rfl)
      have HIM := Lib.hid (show ∀ c ∈ J, c < 256 from fun c hc => by
        rw [HJ.out] at hc
        rcases List.mem_append.1 hc with h | h
        · exact HIb.out c h
        · exact HML.out c h)
      have HIN := Lib.hid (show J.length ≤ 10000 by rw [HJ.out, List.length_append, HIL.out]; have := HMN.out; omega)
      have HOM := Lib.hid (show ∀ c ∈ P, c < 256 from fun c hc => by
        rw [HP.out] at hc
        rcases List.mem_append.1 hc with h | h
        · exact HOb.out c h
        · exact HSLT.out c h)
      have HON := Lib.hid (show P.length ≤ 10000 by rw [HP.out, List.length_append, HOL.out, HSN.out]; decide)
      clear HM HB HX hB hC
      obtain ⟨A6, k6, rfl, _, _, _⟩ := HO.out.oa.rd
      obtain ⟨A7, k7, rfl, _, _, _⟩ := HO.out.ob.rd
      go_upto_region 14 with (first
        | (at_builtin; refine wpList_app _ rfl (.tmp 42) (.tmp 43) _ rfl X.heap.size 5 i0 (.int .u8 0) 1 1 Tryd.underlying22 hi hz0 hz1 hz2 rfl (by decide) _ _ _ rfl HO.out.rot.oa C D m.length cb (byt m) rfl (by simp [byt_len]) HMW.out (byt_one m) (by rw [HIL.out]; have := HMN.out; omega) (by rw [HIL.out]; have := HMN.out; omega) HBX.out ?_; intro v3 w3 hap; have ho3 := (HO.out.rot.app hap).rot; rw [← HJ.out] at ho3; have HB3 := Lib.hid (hap.below HO.out.rot.oa HBX.out); obtain ⟨A3, k3, rfl, _, _, r3⟩ := ho3.ob.rd; have HR3 := Lib.hid r3; have HO3 := Lib.hid ho3; clear ho3 r3 hap)
        | (go_at_call 20; (refine (rsum_c w3.heap.size A3 k3 J w3 HR3.out (Nat.le_refl _) HIM.out HIN.out).mono ?_); rw [HS1.out]; rintro e w4 ⟨rfl, hb⟩; have HO4 := Lib.hid (HO3.out.keep hb); have HB4 := Lib.hid (HB3.out.trans (hb.mono (Nat.le_trans HBX.out HB3.out.size))); clear hb)
        | (refine wpList_store_rowTo rfl 26 (.tmp 10) (.tmp 45) rfl rfl w4.heap.size (vb S1) rfl rfl 26 zSum (by exact Blk.new _ _ _) HSI.out (by rw [vb_size, HSN.out]; rfl) (vb_one _) ?_; obtain ⟨Y, hY⟩ : ∃ Y, Y = (w4.alloc (Obj.cells zSum 26)).setRow w4.heap.size (vb S1) := ⟨_, rfl⟩; have h4y : Below w4.heap.size w4 Y := (by rw [hY]; exact ((Below.refl _ _).alloc (Nat.le_refl _) _).trans ⟨rfl, rfl, rfl, by simp [World.setRow], fun i hi => setRow_other _ _ i _ (by omega)⟩); have hby : Blk Y w4.heap.size 26 (vb S1) := (by rw [hY]; exact setRow_heap _ _ _ _ _ (0, 0) (Blk.new w4 _ _)); have HRY := Lib.hid (show Rd Y Y.heap.size (some ⟨w4.heap.size, 0, none⟩) (byt S1) from (rd_blk hby _ 32 (by show byt _ = ((byt S1).toArray.toList).take 32; rw [List.toList_toArray, List.take_of_length_le (by rw [byt_len, HSN.out]; decide)])).more hby.lt); have HOY := Lib.hid (HO4.out.keep h4y); have HBY := Lib.hid (HB4.out.trans (h4y.mono (Nat.le_trans HBX.out HB4.out.size))); rw [← hY]; clear hY h4y hby))
      go_upto_region 15 with (first
        | (at_builtin; refine wpList_app _ rfl (.tmp 46) (.tmp 47) _ rfl X.heap.size 5 i0 (.int .u8 0) 1 1 Tryd.underlying22 hi hz0 hz1 hz2 rfl (by decide) _ _ _ rfl HOY.out.oa _ (some ⟨w4.heap.size, 0, none⟩) 32 32 (byt S1) rfl (by simp [byt_len, HSN.out]) HRY.out (byt_one _) (by rw [HOL.out]; decide) (by rw [HOL.out]; decide) (Nat.le_trans HBX.out HBY.out.size) ?_; intro v5 w5 hap; have ho5 : OwnB w5 X.heap.size v5 P := (by rw [HP.out]; exact OwnB.app (by rw [HSN.out]; exact hap)); have HB5 := Lib.hid (HBY.out.trans (hap.below HOY.out.oa (Nat.le_trans HBX.out HBY.out.size))); obtain ⟨A5, k5, rfl, _, _, r5⟩ := ho5.rd; have HR5 := Lib.hid r5; clear ho5 r5 hap)
        | (go_at_call 20; (refine (rsum_c w5.heap.size A5 k5 P w5 HR5.out (Nat.le_refl _) HOM.out HON.out).mono ?_); rw [HMS.out]; rintro e w6 ⟨rfl, hb⟩; have HB6 := Lib.hid (HB5.out.trans (hb.mono (Nat.le_trans HBX.out HB5.out.size))); clear hb)
        | (refine wpList_store_rowTo rfl 26 (.tmp 11) (.tmp 49) rfl rfl w6.heap.size (vb M) rfl rfl 26 zSum (by exact Blk.new _ _ _) HSM.out (by rw [vb_size, HMNN.out]; rfl) (vb_one _) ?_; obtain ⟨V, hV⟩ : ∃ V, V = (w6.alloc (Obj.cells zSum 26)).setRow w6.heap.size (vb M) := ⟨_, rfl⟩; have h6v : Below w6.heap.size w6 V := (by rw [hV]; exact ((Below.refl _ _).alloc (Nat.le_refl _) _).trans ⟨rfl, rfl, rfl, by simp [World.setRow], fun i hi => setRow_other _ _ i _ (by omega)⟩); have hbv : Blk V w6.heap.size 26 (vb M) := (by rw [hV]; exact setRow_heap _ _ _ _ _ (0, 0) (Blk.new w6 _ _)); have HRV := Lib.hid (show Rd V V.heap.size (some ⟨w6.heap.size, 0, none⟩) (byt M) from (rd_blk hbv _ 32 (by show byt _ = ((byt M).toArray.toList).take 32; rw [List.toList_toArray, List.take_of_length_le (by rw [byt_len, HMNN.out]; decide)])).more hbv.lt); have HBV := Lib.hid (HB6.out.trans (h6v.mono (Nat.le_trans HBX.out HB6.out.size))); rw [← hV]; clear hV h6v hbv))
      go_wp2_with ((at_builtin; refine wpList_app _ rfl (.tmp 50) (.tmp 51) _ rfl V.heap.size 5 i0 (.int .u8 0) 1 1 Tryd.underlying22 hi hz0 hz1 hz2 rfl (by decide) _ 0 [] rfl (by exact OwnB.new V _ [] (Nat.le_refl _) (by simp [maxLen])) _ (some ⟨w6.heap.size, 0, none⟩) 32 32 (byt M) rfl (by simp [byt_len, HMNN.out]) (by exact HRV.out.ext ((Below.refl _ _).alloc (Nat.le_refl _) _)) (byt_one _) (by decide) (by decide) (by simp) ?_; intro v7 w7 hap; have HO7 := Lib.hid (show OwnB w7 V.heap.size v7 M from (by have := hap.own; unfold OwnB; rw [HMNN.out]; simpa using this)); have HB7 := Lib.hid (show Below V.heap.size V w7 from ((Below.refl _ _).alloc (Nat.le_refl _) _).trans (hap.below (by exact OwnB.new V _ [] (Nat.le_refl _) (by simp [maxLen])) (by simp))); clear hap))
      go_ret
      rw [← HM2.out]
      have hxv : X.heap.size ≤ V.heap.size := Nat.le_trans HBX.out HBV.out.size
      have hwx : w.heap.size ≤ X.heap.size := HWX.out
      exact ⟨_, rfl, own_base_le HO7.out (Nat.le_trans hwx hxv), (HXW.out.trans (HBV.out.mono hwx)).trans (HB7.out.mono (Nat.le_trans hwx hxv))⟩
set_option maxRecDepth 100000 in
set_option maxHeartbeats 8000000 in
theorem rmacL_c (B C : Nat) (A D : Option Addr) (ca cb : Nat) (k m : List Nat) (w : World) (hk : Rd w B A (byt k)) (hm : Rd w C D (byt m)) (hB : B ≤ w.heap.size) (hC : C ≤ w.heap.size) (hkl : ∀ c ∈ k, c < 256) (hml : ∀ c ∈ m, c < 256) (hkn : k.length ≤ 8000) (hmn : m.length ≤ 8000) (hlong : 64 < k.length) :
    Calls Tryd.prog 16 #[.slice A k.length ca, .slice D m.length cb] w fun e w' => ∃ v, e = .returned v ∧ OwnB w' w.heap.size v (mac k m) ∧ Below w.heap.size w w' := by
  obtain ⟨i0, hi, hz0, hz1, hz2⟩ := info_parts byteInfo
  have HK := Lib.hid hk
  have HM := Lib.hid hm
  have HKL := Lib.hid hkl
  have HML := Lib.hid hml
  have HMN := Lib.hid hmn
  clear hk hm hkl hml hmn
  have zf := zero_sum
  have zs1 : zSum.size = 32 := by rfl
  have zs2 : ¬ zSum = #[] := by intro h; have := congrArg Array.size h; rw [zs1] at this; cases this
  have HIK := Lib.hid (show (Tryd.prog.info? 26).map (·.size) = some (vb (sha k)).size by rw [vb_size, sha_len]; kernel_rfl)
  have q1 : (64 : Int) < (k.length : Int) := by omega
  go_enter Tryd.func16, Tryd.ntmps16
  go_wp2_with (first
    | (go_at_call 20; (refine (rsum_c B A ca k w HK.out hB HKL.out (by omega)).mono ?_); rintro e w1 ⟨rfl, hb⟩; have HB1 := Lib.hid hb; clear hb)
    | (refine wpList_store_rowTo rfl 26 (.tmp 5) (.tmp 16) rfl rfl w1.heap.size (vb (sha k)) rfl rfl 26 zSum (by exact Blk.new _ _ _) HIK.out (by rw [vb_size, sha_len]; rfl) (vb_one _) ?_; obtain ⟨X1, hX1⟩ : ∃ X1, X1 = (w1.alloc (Obj.cells zSum 26)).setRow w1.heap.size (vb (sha k)) := ⟨_, rfl⟩; have h1x : Below w1.heap.size w1 X1 := (by rw [hX1]; exact ((Below.refl _ _).alloc (Nat.le_refl _) _).trans ⟨rfl, rfl, rfl, by simp [World.setRow], fun i hi => setRow_other _ _ i _ (by omega)⟩); have hbx : Blk X1 w1.heap.size 26 (vb (sha k)) := (by rw [hX1]; exact setRow_heap _ _ _ _ _ (0, 0) (Blk.new w1 _ _)); have HRX1 := Lib.hid (show Rd X1 X1.heap.size (some ⟨w1.heap.size, 0, none⟩) (byt (sha k)) from (rd_blk hbx _ 32 (by show byt _ = ((byt (sha k)).toArray.toList).take 32; rw [List.toList_toArray, List.take_of_length_le (by rw [byt_len, sha_len]; decide)])).more hbx.lt); have HBX1 := Lib.hid (HB1.out.trans (h1x.mono HB1.out.size)); rw [← hX1]; clear hX1 h1x hbx)
    | (at_builtin; refine wpList_app _ rfl (.tmp 17) (.tmp 18) _ rfl w.heap.size 5 i0 (.int .u8 0) 1 1 Tryd.underlying22 hi hz0 hz1 hz2 rfl (by decide) _ 0 [] rfl (by exact OwnB.new X1 _ [] HBX1.out.size (by simp [maxLen])) _ (some ⟨w1.heap.size, 0, none⟩) 32 32 (byt (sha k)) rfl (by simp [byt_len, sha_len]) (by exact HRX1.out.ext ((Below.refl _ _).alloc (Nat.le_refl _) _)) (byt_one _) (by decide) (by decide) (by have := HBX1.out.size; simp; omega) ?_; intro v2 X hap; have ho2 : OwnB X w.heap.size v2 (sha k) := (by have := hap.own; unfold OwnB; rw [sha_len]; simpa using this); have HX := Lib.hid (show Below w.heap.size w X from (HBX1.out.alloc HBX1.out.size _).trans (hap.below (by exact OwnB.new X1 _ [] HBX1.out.size (by simp [maxLen])) (by have := HBX1.out.size; simp; omega))); obtain ⟨AK, CK, rfl, _, _, r2⟩ := ho2.rd; have HKR' := Lib.hid r2; clear ho2 r2 hap))
  obtain ⟨kb, hkb⟩ : ∃ kb, kb = sha k := ⟨_, rfl⟩
  have hkb2 : keyB k = kb := by unfold keyB; rw [if_pos hlong, hkb]
  have HMAC := Lib.hid (show mac k m = sha (xr 92 (fill64 kb) ++ sha (xr 54 (fill64 kb) ++ m)) by unfold mac; rw [hkb2])
  have HK64 := Lib.hid (show kb.length ≤ 64 by rw [hkb, sha_len]; decide)
  have HKB := Lib.hid (show ∀ c ∈ kb, c < 256 by rw [hkb]; exact sha_lt k)
  have HKR := Lib.hid (show Rd X X.heap.size AK (byt kb) by rw [hkb]; exact HKR'.out)
  have BKle := Lib.hid (Nat.le_refl X.heap.size)
  rw [← hkb]
  clear hkb hkb2 HKR' HRX1 HBX1 HB1 HIK q1
  have HWX := Lib.hid HX.out.size
  have HFL := Lib.hid (fill64_len kb HK64.out)
  have HFB := Lib.hid (fill64_lt HKB.out)
  have HFA := Lib.hid (fun i (h : i < kb.length) => fill64_at kb i h)
  have HFN := Lib.hid (fun i (h : ¬ i < kb.length) => fill64_far kb i h)
  generalize fill64 kb = F at *
  go_loopw [6, 7, 8] (fun va vb' vi wr => ∃ i : Nat, i ≤ 64 ∧ vi = .int .i64 (i : Int) ∧ Own2 wr X.heap.size va (xr 92 (F.take i)) vb' (xr 54 (F.take i)) ∧ Below X.heap.size X wr) (fun _ _ vi _ => 64 - (intOf vi).toNat)
  case atStart => exact ⟨0, by omega, rfl, Own2.nil_ _ _, Below.refl _ _⟩
  case round =>
    rename World => wr
    obtain ⟨i, hi64, rfl, ho, hb⟩ := hrel
    have HO := Lib.hid ho
    have HB := Lib.hid hb
    clear ho hb
    by_cases hlt : i < 64
    · have hiF : i < F.length := by rw [HFL.out]; exact hlt
      have hf := getD_lt HFB.out i
      have HT92 := Lib.hid (xr_take_succ 92 F i hiF)
      have HT54 := Lib.hid (xr_take_succ 54 F i hiF)
      have HL92 := Lib.hid (show (xr 92 (F.take i)).length = i by rw [xr_len, List.length_take]; omega)
      have HL54 := Lib.hid (show (xr 54 (F.take i)).length = i by rw [xr_len, List.length_take]; omega)
      have x5 : bits BinOp.xor .u8 ((F.getD i 0 : Nat) : Int) 54 = ((F.getD i 0 ^^^ 54 : Nat) : Int) := u8_xor_nat (F.getD i 0) 54 hf (by decide)
      have x6 : bits BinOp.xor .u8 ((F.getD i 0 : Nat) : Int) 92 = ((F.getD i 0 ^^^ 92 : Nat) : Int) := u8_xor_nat (F.getD i 0) 92 hf (by decide)
      obtain ⟨A6, k6, rfl, _, _, _⟩ := HO.out.oa.rd
      obtain ⟨A7, k7, rfl, _, _, _⟩ := HO.out.ob.rd
      by_cases hik : i < kb.length
      · have hfa := HFA.out i hik
        rw [hfa] at x5 x6 HT92 HT54 hf
        obtain ⟨ad, eAD, hab, hc⟩ := HKR.out.byte hik
        subst eAD
        have q0 : wr.cell? (ad.add i) = some (.int .u8 (kb.getD i 0 : Nat)) := (HB.out.cell (p := ad.add i) (by rw [add_block]; exact Nat.lt_of_lt_of_le hab BKle.out)).trans hc
        clear hc hfa
        generalize kb.getD i 0 = f at *
        generalize f ^^^ 92 = f92 at *
        generalize f ^^^ 54 = f54 at *
        go_wp2_with (first
          | (at_builtin; refine wpList_app _ rfl (.tmp 32) (.tmp 35) _ rfl X.heap.size 5 i0 (.int .u8 0) 1 1 Tryd.underlying22 hi hz0 hz1 hz2 rfl (by decide) _ _ _ rfl (HO.out.alloc _).oa _ _ 1 1 [.int .u8 (f92 : Nat)] rfl rfl (by exact rd_one _ _ _) (byt_one [f92]) (by have := HL92.out; omega) (by have := HL92.out; omega) (by have := HB.out.size; simp; omega) ?_; intro v1 w1 hap; have HO1 := Lib.hid ((HO.out.alloc _).snoc hap); have HB1 := Lib.hid (show Below X.heap.size X w1 from (HB.out.alloc HB.out.size _).trans (hap.below (HO.out.alloc _).oa (by have := HB.out.size; simp; omega))); clear hap)
          | (at_builtin; refine wpList_app _ rfl (.tmp 37) (.tmp 40) _ rfl X.heap.size 5 i0 (.int .u8 0) 1 1 Tryd.underlying22 hi hz0 hz1 hz2 rfl (by decide) _ _ _ rfl (HO1.out.rot.alloc _).oa _ _ 1 1 [.int .u8 (f54 : Nat)] rfl rfl (by exact rd_one _ _ _) (byt_one [f54]) (by have := HL54.out; omega) (by have := HL54.out; omega) (by have := HB1.out.size; simp; omega) ?_; intro v2 w2 hap; have HO2 := Lib.hid ((HO1.out.rot.alloc _).snoc hap).rot; have HB2 := Lib.hid (show Below X.heap.size X w2 from (HB1.out.alloc HB1.out.size _).trans (hap.below (HO1.out.rot.alloc _).oa (by have := HB1.out.size; simp; omega))); clear hap))
        refine ⟨⟨i + 1, by omega, by congr 1, by rw [HT92.out, HT54.out]; exact HO2.out, HB2.out⟩, ?_⟩
        simp only [intOf]; omega
      · have hfa := HFN.out i hik
        rw [hfa] at x5 x6 HT92 HT54 hf
        clear hfa
        have x5' : bits BinOp.xor .u8 0 54 = ((0 ^^^ 54 : Nat) : Int) := x5
        have x6' : bits BinOp.xor .u8 0 92 = ((0 ^^^ 92 : Nat) : Int) := x6
        clear x5 x6
        generalize (0 ^^^ 92 : Nat) = f92 at *
        generalize (0 ^^^ 54 : Nat) = f54 at *
        go_wp2_with (first
          | (at_builtin; refine wpList_app _ rfl (.tmp 32) (.tmp 35) _ rfl X.heap.size 5 i0 (.int .u8 0) 1 1 Tryd.underlying22 hi hz0 hz1 hz2 rfl (by decide) _ _ _ rfl (HO.out.alloc _).oa _ _ 1 1 [.int .u8 (f92 : Nat)] rfl rfl (by exact rd_one _ _ _) (byt_one [f92]) (by have := HL92.out; omega) (by have := HL92.out; omega) (by have := HB.out.size; simp; omega) ?_; intro v1 w1 hap; have HO1 := Lib.hid ((HO.out.alloc _).snoc hap); have HB1 := Lib.hid (show Below X.heap.size X w1 from (HB.out.alloc HB.out.size _).trans (hap.below (HO.out.alloc _).oa (by have := HB.out.size; simp; omega))); clear hap)
          | (at_builtin; refine wpList_app _ rfl (.tmp 37) (.tmp 40) _ rfl X.heap.size 5 i0 (.int .u8 0) 1 1 Tryd.underlying22 hi hz0 hz1 hz2 rfl (by decide) _ _ _ rfl (HO1.out.rot.alloc _).oa _ _ 1 1 [.int .u8 (f54 : Nat)] rfl rfl (by exact rd_one _ _ _) (byt_one [f54]) (by have := HL54.out; omega) (by have := HL54.out; omega) (by have := HB1.out.size; simp; omega) ?_; intro v2 w2 hap; have HO2 := Lib.hid ((HO1.out.rot.alloc _).snoc hap).rot; have HB2 := Lib.hid (show Below X.heap.size X w2 from (HB1.out.alloc HB1.out.size _).trans (hap.below (HO1.out.rot.alloc _).oa (by have := HB1.out.size; simp; omega))); clear hap))
        refine ⟨⟨i + 1, by omega, by congr 1, by rw [HT92.out, HT54.out]; exact HO2.out, HB2.out⟩, ?_⟩
        simp only [intOf]; omega
    · obtain rfl : i = 64 := by omega
      have ho := HO.out
      rw [List.take_of_length_le (by rw [HFL.out]; decide)] at ho
      have HIb := Lib.hid (xr_lt (by decide : 54 < 256) HFB.out)
      have HOb := Lib.hid (xr_lt (by decide : 92 < 256) HFB.out)
      have HIL := Lib.hid (show (xr 54 F).length = 64 by rw [xr_len, HFL.out])
      have HOL := Lib.hid (show (xr 92 F).length = 64 by rw [xr_len, HFL.out])
      clear HO HFB HFL HFA HFN HKR HKB HK64 BKle
      generalize xr 54 F = I at *
      generalize xr 92 F = O at *
      have HO := Lib.hid ho
      clear ho
      have HMW := Lib.hid (show Rd wr C D (byt m) from (HM.out.below (HX.out.mono hC)).below (HB.out.mono (Nat.le_trans hC HX.out.size)))
      have HXW := Lib.hid (show Below w.heap.size w wr from HX.out.trans (HB.out.mono HX.out.size))
      have HBX := Lib.hid (show X.heap.size ≤ wr.heap.size from HB.out.size)
      obtain ⟨J, hJ⟩ : ∃ J, J = I ++ m := ⟨_, rfl⟩
      obtain ⟨S1, hS1⟩ : ∃ S1, S1 = sha J := ⟨_, rfl⟩
      obtain ⟨P, hP⟩ : ∃ P, P = O ++ S1 := ⟨_, rfl⟩
      obtain ⟨M, hM⟩ : ∃ M, M = mac k m := ⟨_, rfl⟩
      have HJ := Lib.hid hJ
      have HP := Lib.hid hP
      have HM2 := Lib.hid hM
      have HS1 := Lib.hid hS1.symm
      have HMS := Lib.hid (show sha P = M by rw [hM, HMAC.out, hP, hS1, hJ])
      have HSN := Lib.hid (show S1.length = 32 by rw [hS1, sha_len])
      have HMNN := Lib.hid (show M.length = 32 by rw [hM, mac_len])
      have HSLT := Lib.hid (show ∀ c ∈ S1, c < 256 by rw [hS1]; exact sha_lt _)
      clear hJ hS1 hP hM HMAC
      have HSI := Lib.hid (show (Tryd.prog.info? 26).map (·.size) = some (vb S1).size by rw [vb_size, HSN.out]; kernel_rfl)
      have HSM := Lib.hid (show (Tryd.prog.info? 26).map (·.size) = some (vb M).size by rw [vb_size, HMNN.out]; kernel_rfl)
      have HIM := Lib.hid (show ∀ c ∈ J, c < 256 from fun c hc => by
        rw [HJ.out] at hc
        rcases List.mem_append.1 hc with h | h
        · exact HIb.out c h
        · exact HML.out c h)
      have HIN := Lib.hid (show J.length ≤ 10000 by rw [HJ.out, List.length_append, HIL.out]; have := HMN.out; omega)
      have HOM := Lib.hid (show ∀ c ∈ P, c < 256 from fun c hc => by
        rw [HP.out] at hc
        rcases List.mem_append.1 hc with h | h
        · exact HOb.out c h
        · exact HSLT.out c h)
      have HON := Lib.hid (show P.length ≤ 10000 by rw [HP.out, List.length_append, HOL.out, HSN.out]; decide)
      clear HM HB HX hB hC
      obtain ⟨A6, k6, rfl, _, _, _⟩ := HO.out.oa.rd
      obtain ⟨A7, k7, rfl, _, _, _⟩ := HO.out.ob.rd
      go_upto_region 14 with (first
        | (at_builtin; refine wpList_app _ rfl (.tmp 42) (.tmp 43) _ rfl X.heap.size 5 i0 (.int .u8 0) 1 1 Tryd.underlying22 hi hz0 hz1 hz2 rfl (by decide) _ _ _ rfl HO.out.rot.oa C D m.length cb (byt m) rfl (by simp [byt_len]) HMW.out (byt_one m) (by rw [HIL.out]; have := HMN.out; omega) (by rw [HIL.out]; have := HMN.out; omega) HBX.out ?_; intro v3 w3 hap; have ho3 := (HO.out.rot.app hap).rot; rw [← HJ.out] at ho3; have HB3 := Lib.hid (hap.below HO.out.rot.oa HBX.out); obtain ⟨A3, k3, rfl, _, _, r3⟩ := ho3.ob.rd; have HR3 := Lib.hid r3; have HO3 := Lib.hid ho3; clear ho3 r3 hap)
        | (go_at_call 20; (refine (rsum_c w3.heap.size A3 k3 J w3 HR3.out (Nat.le_refl _) HIM.out HIN.out).mono ?_); rw [HS1.out]; rintro e w4 ⟨rfl, hb⟩; have HO4 := Lib.hid (HO3.out.keep hb); have HB4 := Lib.hid (HB3.out.trans (hb.mono (Nat.le_trans HBX.out HB3.out.size))); clear hb)
        | (refine wpList_store_rowTo rfl 26 (.tmp 10) (.tmp 45) rfl rfl w4.heap.size (vb S1) rfl rfl 26 zSum (by exact Blk.new _ _ _) HSI.out (by rw [vb_size, HSN.out]; rfl) (vb_one _) ?_; obtain ⟨Y, hY⟩ : ∃ Y, Y = (w4.alloc (Obj.cells zSum 26)).setRow w4.heap.size (vb S1) := ⟨_, rfl⟩; have h4y : Below w4.heap.size w4 Y := (by rw [hY]; exact ((Below.refl _ _).alloc (Nat.le_refl _) _).trans ⟨rfl, rfl, rfl, by simp [World.setRow], fun i hi => setRow_other _ _ i _ (by omega)⟩); have hby : Blk Y w4.heap.size 26 (vb S1) := (by rw [hY]; exact setRow_heap _ _ _ _ _ (0, 0) (Blk.new w4 _ _)); have HRY := Lib.hid (show Rd Y Y.heap.size (some ⟨w4.heap.size, 0, none⟩) (byt S1) from (rd_blk hby _ 32 (by show byt _ = ((byt S1).toArray.toList).take 32; rw [List.toList_toArray, List.take_of_length_le (by rw [byt_len, HSN.out]; decide)])).more hby.lt); have HOY := Lib.hid (HO4.out.keep h4y); have HBY := Lib.hid (HB4.out.trans (h4y.mono (Nat.le_trans HBX.out HB4.out.size))); rw [← hY]; clear hY h4y hby))
      go_upto_region 15 with (first
        | (at_builtin; refine wpList_app _ rfl (.tmp 46) (.tmp 47) _ rfl X.heap.size 5 i0 (.int .u8 0) 1 1 Tryd.underlying22 hi hz0 hz1 hz2 rfl (by decide) _ _ _ rfl HOY.out.oa _ (some ⟨w4.heap.size, 0, none⟩) 32 32 (byt S1) rfl (by simp [byt_len, HSN.out]) HRY.out (byt_one _) (by rw [HOL.out]; decide) (by rw [HOL.out]; decide) (Nat.le_trans HBX.out HBY.out.size) ?_; intro v5 w5 hap; have ho5 : OwnB w5 X.heap.size v5 P := (by rw [HP.out]; exact OwnB.app (by rw [HSN.out]; exact hap)); have HB5 := Lib.hid (HBY.out.trans (hap.below HOY.out.oa (Nat.le_trans HBX.out HBY.out.size))); obtain ⟨A5, k5, rfl, _, _, r5⟩ := ho5.rd; have HR5 := Lib.hid r5; clear ho5 r5 hap)
        | (go_at_call 20; (refine (rsum_c w5.heap.size A5 k5 P w5 HR5.out (Nat.le_refl _) HOM.out HON.out).mono ?_); rw [HMS.out]; rintro e w6 ⟨rfl, hb⟩; have HB6 := Lib.hid (HB5.out.trans (hb.mono (Nat.le_trans HBX.out HB5.out.size))); clear hb)
        | (refine wpList_store_rowTo rfl 26 (.tmp 11) (.tmp 49) rfl rfl w6.heap.size (vb M) rfl rfl 26 zSum (by exact Blk.new _ _ _) HSM.out (by rw [vb_size, HMNN.out]; rfl) (vb_one _) ?_; obtain ⟨V, hV⟩ : ∃ V, V = (w6.alloc (Obj.cells zSum 26)).setRow w6.heap.size (vb M) := ⟨_, rfl⟩; have h6v : Below w6.heap.size w6 V := (by rw [hV]; exact ((Below.refl _ _).alloc (Nat.le_refl _) _).trans ⟨rfl, rfl, rfl, by simp [World.setRow], fun i hi => setRow_other _ _ i _ (by omega)⟩); have hbv : Blk V w6.heap.size 26 (vb M) := (by rw [hV]; exact setRow_heap _ _ _ _ _ (0, 0) (Blk.new w6 _ _)); have HRV := Lib.hid (show Rd V V.heap.size (some ⟨w6.heap.size, 0, none⟩) (byt M) from (rd_blk hbv _ 32 (by show byt _ = ((byt M).toArray.toList).take 32; rw [List.toList_toArray, List.take_of_length_le (by rw [byt_len, HMNN.out]; decide)])).more hbv.lt); have HBV := Lib.hid (HB6.out.trans (h6v.mono (Nat.le_trans HBX.out HB6.out.size))); rw [← hV]; clear hV h6v hbv))
      go_wp2_with ((at_builtin; refine wpList_app _ rfl (.tmp 50) (.tmp 51) _ rfl V.heap.size 5 i0 (.int .u8 0) 1 1 Tryd.underlying22 hi hz0 hz1 hz2 rfl (by decide) _ 0 [] rfl (by exact OwnB.new V _ [] (Nat.le_refl _) (by simp [maxLen])) _ (some ⟨w6.heap.size, 0, none⟩) 32 32 (byt M) rfl (by simp [byt_len, HMNN.out]) (by exact HRV.out.ext ((Below.refl _ _).alloc (Nat.le_refl _) _)) (byt_one _) (by decide) (by decide) (by simp) ?_; intro v7 w7 hap; have HO7 := Lib.hid (show OwnB w7 V.heap.size v7 M from (by have := hap.own; unfold OwnB; rw [HMNN.out]; simpa using this)); have HB7 := Lib.hid (show Below V.heap.size V w7 from ((Below.refl _ _).alloc (Nat.le_refl _) _).trans (hap.below (by exact OwnB.new V _ [] (Nat.le_refl _) (by simp [maxLen])) (by simp))); clear hap))
      go_ret
      rw [← HM2.out]
      have hxv : X.heap.size ≤ V.heap.size := Nat.le_trans HBX.out HBV.out.size
      have hwx : w.heap.size ≤ X.heap.size := HWX.out
      exact ⟨_, rfl, own_base_le HO7.out (Nat.le_trans hwx hxv), (HXW.out.trans (HBV.out.mono hwx)).trans (HB7.out.mono (Nat.le_trans hwx hxv))⟩
theorem rmac_c (B C : Nat) (A D : Option Addr) (ca cb : Nat) (k m : List Nat) (w : World) (hk : Rd w B A (byt k)) (hm : Rd w C D (byt m)) (hB : B ≤ w.heap.size) (hC : C ≤ w.heap.size) (hkl : ∀ c ∈ k, c < 256) (hml : ∀ c ∈ m, c < 256) (hkn : k.length ≤ 8000) (hmn : m.length ≤ 8000) :
    Calls Tryd.prog 16 #[.slice A k.length ca, .slice D m.length cb] w fun e w' => ∃ v, e = .returned v ∧ OwnB w' w.heap.size v (mac k m) ∧ Below w.heap.size w w' := by
  by_cases h : 64 < k.length
  · exact rmacL_c B C A D ca cb k m w hk hm hB hC hkl hml hkn hmn h
  · exact rmacS_c B C A D ca cb k m w hk hm hB hC hkl hml hkn hmn h
end Go.Proofs.YthlmlmkabjppeaaDoor
namespace Go.Proofs.YthlmlmkabjppeaaDoor
open Go.RowKit
set_option linter.unusedVariables false
set_option linter.unusedSimpArgs false
def keyL : List Nat := [107, 101, 121]
def foxL : List Nat := [84, 104, 101, 32, 113, 117, 105, 99, 107, 32, 98, 114, 111, 119, 110, 32, 102, 111, 120, 32, 106, 117, 109, 112, 115, 32, 111, 118, 101, 114, 32, 116, 104, 101, 32, 108, 97, 122, 121, 32, 100, 111, 103]
def foxM : List Nat := [247, 188, 131, 244, 48, 83, 132, 36, 177, 50, 152, 230, 170, 111, 177, 67, 239, 77, 89, 161, 73, 70, 23, 89, 151, 71, 157, 188, 45, 26, 60, 216]
set_option maxRecDepth 100000 in
set_option maxHeartbeats 4000000 in
theorem awake03_c (w : World) (hR : RoundsAt w) :
    Calls Tryd.prog 11 #[] w fun e w' => e = .returned (.bool true) ∧ Below w.heap.size w w' := by
  have kcv := fun (w : World) (C : Array Value) (n c : Nat) => Lib.run_convert_bytes_const (P := Tryd.prog) w 22 5 C n c Tryd.underlying22 Tryd.underlying5
  have kcv2 := fun (C : Array Value) (n c : Nat) => Joins.run_convert_bytes_const_at (P := Tryd.prog) (w.alloc (Obj.cells #[Value.int .u8 107, Value.int .u8 101, Value.int .u8 121] 5 (3, 4))) 22 5 C n c (w.heap.size + 1) (by simp) Tryd.underlying22 Tryd.underlying5
  have HRO := Lib.hid hR
  clear hR
  have zf := zero_sum
  have zs1 : zSum.size = 32 := by rfl
  have zs2 : ¬ zSum = #[] := by intro h; have := congrArg Array.size h; rw [zs1] at this; cases this
  go_enter Tryd.func11, Tryd.ntmps11
  obtain ⟨W1, hW1⟩ : ∃ W1, W1 = w.alloc (Obj.cells (vb keyL) 5 (3, 4)) := ⟨_, rfl⟩
  obtain ⟨W, hW⟩ : ∃ W, W = W1.alloc (Obj.cells (vb foxL) 5 (43, 44)) := ⟨_, rfl⟩
  have hs1 : W1.heap.size = w.heap.size + 1 := by rw [hW1]; simp
  have hbw : Below w.heap.size w W := by rw [hW, hW1]; exact ((Below.refl _ _).alloc (Nat.le_refl _) _).alloc (by simp) _
  have hm := mac_c (w.heap.size + 1) (w.heap.size + 1 + 1) (some ⟨w.heap.size, 0, none⟩) (some ⟨w.heap.size + 1, 0, none⟩) 3 43 keyL foxL W (by
      have h1 := rd_lit w keyL (3, 4)
      rw [hW, ← hs1]
      rw [← hW1] at h1
      rw [hs1]
      exact h1.below ((Below.refl _ _).alloc (by omega) _)) (by
      have h1 := rd_lit W1 foxL (43, 44)
      rw [hs1] at h1
      rw [hW]; exact h1) (by rw [hW]; simp; omega) (by rw [hW]; simp; omega) (by decide) (by decide) (by decide) (by decide) (HRO.out.next hbw)
  have hm2 : Calls Tryd.prog 13 #[.slice (some ⟨w.heap.size, 0, none⟩) 3 3, .slice (some ⟨w.heap.size + 1, 0, none⟩) 43 43] ((w.alloc (Obj.cells (vb keyL) 5 (3, 4))).alloc (Obj.cells (vb foxL) 5 (43, 44))) fun e w' => e = .returned (.agg (vb foxM)) ∧ Below w.heap.size w w' := by
    rw [← hW1, ← hW]
    refine Calls.mono hm ?_
    rintro e w' ⟨rfl, hb⟩
    exact ⟨congrArg (fun l => Ending.returned (.agg (vb l))) mac_fox, hbw.trans (hb.mono hbw.size)⟩
  have HM := Lib.hid hm2
  clear hm hm2 hbw hW hs1 hW1
  have HIS := Lib.hid (show (Tryd.prog.info? 26).map (·.size) = some (vb foxM).size by kernel_rfl)
  go_wp2_with (first
    | (go_at_call 13; (refine HM.out.mono ?_); rintro e w1 ⟨rfl, hb⟩; have HB1 := Lib.hid hb; clear hb)
    | (refine wpList_store_rowTo rfl 26 (.tmp 1) (.tmp 6) rfl rfl w1.heap.size (vb foxM) rfl rfl 26 zSum (by exact Blk.new _ _ _) HIS.out (by rfl) (vb_one _) ?_; obtain ⟨Y, hY⟩ : ∃ Y, Y = (w1.alloc (Obj.cells zSum 26)).setRow w1.heap.size (vb foxM) := ⟨_, rfl⟩; have hby : Blk Y w1.heap.size 26 (vb foxM) := (by rw [hY]; exact setRow_heap _ _ _ _ _ (0, 0) (Blk.new w1 _ _)); have HBY := Lib.hid (show Below w.heap.size w Y from (by rw [hY]; exact (HB1.out.alloc HB1.out.size _).trans ⟨rfl, rfl, rfl, by simp [World.setRow], fun i hi => setRow_other _ _ i _ (by have := HB1.out.size; omega)⟩)); have c0 : Y.cell? ⟨w1.heap.size, 0, none⟩ = some (.int .u8 247) := (hby.cell 0).trans rfl; have c1 : Y.cell? ⟨w1.heap.size, 1, none⟩ = some (.int .u8 188) := (hby.cell 1).trans rfl; have c2 : Y.cell? ⟨w1.heap.size, 2, none⟩ = some (.int .u8 131) := (hby.cell 2).trans rfl; have c3 : Y.cell? ⟨w1.heap.size, 3, none⟩ = some (.int .u8 244) := (hby.cell 3).trans rfl; have c31 : Y.cell? ⟨w1.heap.size, 31, none⟩ = some (.int .u8 216) := (hby.cell 31).trans rfl; rw [← hY]; clear hY hby))
  go_ret
  exact ⟨rfl, HBY.out⟩
end Go.Proofs.YthlmlmkabjppeaaDoor
namespace Go.Proofs.YthlmlmkabjppeaaDoor
open Go.RowKit
set_option linter.unusedVariables false
set_option linter.unusedSimpArgs false
theorem below_row {n g : Nat} {w W : World} (h : Below n w W) (hn : n ≤ g) (cs : Array Value) : Below n w (W.setRow g cs) :=
  h.trans ⟨rfl, rfl, rfl, by simp [World.setRow], fun i hi => setRow_other _ _ i _ (by omega)⟩
set_option maxRecDepth 100000 in
set_option maxHeartbeats 4000000 in
theorem extract_c (B C : Nat) (A D : Option Addr) (ca cb : Nat) (k m : List Nat) (w : World) (hk : Rd w B A (byt k)) (hm : Rd w C D (byt m)) (hB : B ≤ w.heap.size) (hC : C ≤ w.heap.size) (hkl : ∀ c ∈ k, c < 256) (hml : ∀ c ∈ m, c < 256) (hkn : k.length ≤ 8000) (hmn : m.length ≤ 8000) (hR : RoundsAt w) :
    Calls Tryd.prog 14 #[.slice A k.length ca, .slice D m.length cb] w fun e w' => e = .returned (.agg (vb (mac k m))) ∧ Below w.heap.size w w' := by
  have HMC := Lib.hid (mac_c B C A D ca cb k m (w.alloc (Obj.cells zSum 26)) (hk.below ((Below.refl _ _).alloc hB _)) (hm.below ((Below.refl _ _).alloc hC _)) (Nat.le_trans hB (by simp)) (Nat.le_trans hC (by simp)) hkl hml hkn hmn (hR.next ((Below.refl _ _).alloc (Nat.le_refl _) _)))
  have HSM := Lib.hid (show (Tryd.prog.info? 26).map (·.size) = some (vb (mac k m)).size by rw [vb_size, mac_len]; kernel_rfl)
  clear hk hm hkl hml hR
  have zf := zero_sum
  have zs1 : zSum.size = 32 := by rfl
  have zs2 : ¬ zSum = #[] := by intro h; have := congrArg Array.size h; rw [zs1] at this; cases this
  go_enter Tryd.func14, Tryd.ntmps14
  go_wp2_with (first
    | (go_at_call 13; (refine HMC.out.mono ?_); rintro e w1 ⟨rfl, hb⟩; have HB1 := Lib.hid hb; have HZ1 := Lib.hid (show Blk w1 w.heap.size 26 zSum from (Blk.new w _ _).below hb (by simp)); clear hb)
    | (refine wpList_store_rowTo rfl 26 (.tmp 4) (.tmp 7) rfl rfl w.heap.size (vb (mac k m)) rfl rfl 26 zSum HZ1.out HSM.out (by rw [vb_size, mac_len]; rfl) (vb_one _) ?_))
  first
    | rw [Exit.noGoto_ret]
    | skip
  refine bodyPost_ret (results_cell_row rfl _ _ w.heap.size 26 (vb (mac k m)) (0, 0) _ rfl (setRow_heap _ _ zSum _ 26 (0, 0) HZ1.out) Tryd.underlying26 rfl HSM.out) rfl ?_
  exact ⟨rfl, (((Below.refl _ _).alloc (Nat.le_refl _) _).trans (HB1.out.mono (by simp))).trans ⟨rfl, rfl, rfl, by simp [World.setRow], fun i hi => setRow_other _ _ i _ (by omega)⟩⟩
set_option maxRecDepth 100000 in
set_option maxHeartbeats 8000000 in
theorem hkdfMacs_w (A D : Option Addr) (ca cb : Nat) (k m : List Nat) (w : World) (hkl : ∀ c ∈ k, c < 256) (hml : ∀ c ∈ m, c < 256) (hk : Rd w w.heap.size A (byt k)) (hm : Rd w w.heap.size D (byt m)) (hR : RoundsAt w) :
    Calls Tryd.prog 3 #[.slice A k.length ca, .slice D m.length cb] w fun e w' => e = .returned (.bool true) ∧ Below w.heap.size w w' := by
  have HRO := Lib.hid hR
  clear hR
  by_cases h1 : k.length ≤ 200
  · by_cases h2 : m.length ≤ 200
    · have HK := Lib.hid hk
      have HM := Lib.hid hm
      have HKL := Lib.hid hkl
      have HML := Lib.hid hml
      clear hk hm hkl hml
      have q1 : ¬ (200 : Int) < (k.length : Int) := by omega
      have q2 : ¬ (200 : Int) < (m.length : Int) := by omega
      obtain ⟨M, hM⟩ : ∃ M, M = mac k m := ⟨_, rfl⟩
      have HML32 := Lib.hid (show M.length = 32 by rw [hM, mac_len])
      have HMB := Lib.hid (show ∀ c ∈ M, c < 256 by rw [hM]; exact mac_lt _ _)
      have hmacc := fun B C A D ca cb w hk hm hB hC hR => mac_c B C A D ca cb k m w hk hm hB hC HKL.out HML.out (by omega) (by omega) hR
      have hextr := fun B C A D ca cb w hk hm hB hC hR => extract_c B C A D ca cb k m w hk hm hB hC HKL.out HML.out (by omega) (by omega) hR
      have hrmac := fun B C A D ca cb w hk hm hB hC => rmac_c B C A D ca cb k m w hk hm hB hC HKL.out HML.out (by omega) (by omega)
      rw [← hM] at hmacc hextr hrmac
      have HMC := Lib.hid hmacc
      have HEX := Lib.hid hextr
      have HRM := Lib.hid hrmac
      clear hmacc hextr hrmac hM
      have HIS := Lib.hid (show (Tryd.prog.info? 26).map (·.size) = some (vb M).size by rw [vb_size, HML32.out]; kernel_rfl)
      have HIL := Lib.hid (show (Tryd.prog.info? 26).map (·.size) = some (vb M).toList.length by rw [Array.length_toList, vb_size, HML32.out]; kernel_rfl)
      have zf := zero_sum
      have zs1 : zSum.size = 32 := by rfl
      have zs2 : ¬ zSum = #[] := by intro h; have := congrArg Array.size h; rw [zs1] at this; cases this
      go_enter Tryd.func3, Tryd.ntmps3
      go_upto_region 4 with (first
        | (go_at_call 12; ((with_reducible refine (lent_c A ca k w HKL.out HK.out (by omega)).mono ?_); rintro e w1 ⟨rfl, hg1, hb1⟩; have HG1 := Lib.hid hg1; have HB1 := Lib.hid hb1; clear hg1 hb1))
        | (go_at_call 12; ((with_reducible refine (lent_c D cb m w1 HML.out (HM.out.ext HB1.out |>.more HB1.out.size) (by omega)).mono ?_); rintro e w2 ⟨rfl, hg2, hb2⟩; have HG2 := Lib.hid hg2; have HG12 := Lib.hid (show LentAt w2 w.heap.size k from HG1.out.below hb2 HG1.out.lt); have HB2 := Lib.hid (HB1.out.trans (hb2.mono HB1.out.size)); clear hg2 hb2)))
      have hle1 := HB1.out.size
      generalize w1.heap.size = g2 at *
      generalize hg1 : w.heap.size = g1 at *
      have HLT2 := Lib.hid HG2.out.lt
      have HLT1 := Lib.hid HG12.out.lt
      have HRD1 := Lib.hid (show ∀ W, Below w2.heap.size w2 W → LentAt W g1 k ∧ LentAt W g2 m from fun W hW => ⟨HG12.out.below hW HG12.out.lt, HG2.out.below hW HG2.out.lt⟩)
      go_upto_region 5 with (first
        | (go_at_call 13; (refine (HMC.out (g1 + 1) (g2 + 1) (some ⟨g1, 0, none⟩) (some ⟨g2, 0, none⟩) (k.length + 8) (m.length + 8) w2 HG12.out.rd HG2.out.rd HLT1.out HLT2.out (HRO.out.next (by rw [hg1]; exact HB2.out))).mono ?_); rintro e w3 ⟨rfl, hb⟩; have HB3 := Lib.hid hb; clear hb)
        | (go_at_call 14; (refine (HEX.out (g1 + 1) (g2 + 1) (some ⟨g1, 0, none⟩) (some ⟨g2, 0, none⟩) (k.length + 8) (m.length + 8) w3 (HRD1.out w3 HB3.out).1.rd (HRD1.out w3 HB3.out).2.rd (Nat.lt_of_lt_of_le HLT1.out HB3.out.size) (Nat.lt_of_lt_of_le HLT2.out HB3.out.size) (HRO.out.next (by rw [hg1]; exact HB2.out.trans (HB3.out.mono (Nat.le_of_lt HLT1.out))))).mono ?_); rintro e w4 ⟨rfl, hb⟩; have HB4 := Lib.hid (HB3.out.trans (hb.mono HB3.out.size)); clear hb)
        | (refine wpList_store_rowTo rfl 26 (.tmp 7) (.tmp 24) rfl rfl w4.heap.size (vb M) rfl rfl 26 zSum (by exact (Blk.new w4 _ _).alloc _) HIS.out (by rw [vb_size, HML32.out]; rfl) (vb_one _) ?_)
        | (refine wpList_store_rowTo rfl 26 (.tmp 8) (.tmp 27) rfl rfl (w4.heap.size + 1) (vb M) rfl rfl 26 zSum (by
            have h1 := Blk.new (w4.alloc (Obj.cells zSum 26)) 26 zSum
            rw [show (w4.alloc (Obj.cells zSum 26)).heap.size = w4.heap.size + 1 by simp] at h1
            exact (setRow_other _ _ (w4.heap.size + 1) _ (by omega)).trans h1) HIS.out (by rw [vb_size, HML32.out]; rfl) (vb_one _) ?_))
      obtain ⟨Y, hY⟩ : ∃ Y, Y = (((w4.alloc (Obj.cells zSum 26)).alloc (Obj.cells zSum 26)).setRow w4.heap.size (vb M)).setRow (w4.heap.size + 1) (vb M) := ⟨_, rfl⟩
      have h7 : Blk Y w4.heap.size 26 (vb M) := by
        rw [hY]
        exact (setRow_other _ _ w4.heap.size _ (by omega)).trans (setRow_heap _ _ _ _ _ (0, 0) ((Blk.new w4 _ _).alloc _))
      have h8 : Blk Y (w4.heap.size + 1) 26 (vb M) := by
        have h1 := Blk.new (w4.alloc (Obj.cells zSum 26)) 26 zSum
        rw [show (w4.alloc (Obj.cells zSum 26)).heap.size = w4.heap.size + 1 by simp] at h1
        rw [hY]
        exact setRow_heap _ _ _ _ _ (0, 0) ((setRow_other _ _ (w4.heap.size + 1) _ (by omega)).trans h1)
      have hwy : Below w2.heap.size w2 Y := by
        have h0 := HB4.out.size
        rw [hY]
        exact below_row (below_row ((HB4.out.alloc h0 _).alloc (by simp; omega) _) h0 _) (by omega) _
      rw [← hY]
      have hby : Below g1 w Y := HB2.out.trans (hwy.mono (Nat.le_of_lt HLT1.out))
      have HBY := Lib.hid hby
      have H7 := Lib.hid h7
      have H8 := Lib.hid h8
      have HY1 := Lib.hid (HRD1.out Y hwy).1
      have HY2 := Lib.hid (HRD1.out Y hwy).2
      have HRK := Lib.hid (show Rd Y g1 A (byt k) from HK.out.below hby)
      have HRM2 := Lib.hid (show Rd Y g1 D (byt m) from HM.out.below hby)
      have HROY := Lib.hid (show RoundsAt Y from HRO.out.next (by rw [hg1]; exact hby))
      have hle : g1 ≤ Y.heap.size := by rw [← hg1]; exact hby.size
      generalize w4.heap.size = g7 at *
      clear hY h7 h8 hwy hby HB2 HB3 HB4 HG1 HG12 HG2 HB1 HMC HEX zf zs1 zs2 hle1 HRD1 HRO HK HM
      have HEQ := fun w => eq_sum M M HML32.out HML32.out HMB.out HMB.out w
      rw [beq_self_eq_true] at HEQ
      have HSA := Lib.hid (show ∀ (x : Ext Y) (u : Value), OwnB x.wd Y.heap.size u M → Calls Tryd.prog 15 #[.slice (some ⟨g7, 0, none⟩) 32 32, u] x.wd fun e w' => e = .returned (.bool true) ∧ Below x.wd.heap.size x.wd w' from fun x u hu => by
        obtain ⟨A9, c9, rfl, _, _, r9⟩ := hu.rd
        have h1 := same_c (g7 + 1) x.wd.heap.size (some ⟨g7, 0, none⟩) A9 32 c9 M M x.wd HMB.out HMB.out (rd_blk (H7.out.below x.bel H7.out.lt) _ 32 (by show byt _ = ((byt M).toArray.toList).take 32; rw [List.toList_toArray, List.take_of_length_le (by rw [byt_len, HML32.out]; decide)])) r9 (by rw [HML32.out]; decide) (by rw [HML32.out]; decide)
        rw [beq_self_eq_true] at h1
        rw [HML32.out] at h1 ⊢
        refine h1.mono ?_
        rintro e w' ⟨rfl, n, rfl⟩
        exact ⟨rfl, belowDrewN n (Below.refl _ _)⟩)
      refine wp_region_loud Y [31] (fun _ u w' => OwnB w' Y.heap.size u M) (by kernel_rfl) (by kernel_rfl) (by kernel_rfl) (by kernel_rfl) (fun _ _ _ _ h hb => OwnB.next h hb) (Below.refl _ _).drew ?_
      repeat (first
        | (refine wpLoud_loadB rfl rfl 26 (.tmp 7) rfl g7 0 rfl (vb M) _ (fun z => rangeAt_blk (H7.out.below z.bel H7.out.lt)) Tryd.underlying26 rfl HIL.out _ (by simp only [Act.put, List.setIfInBounds_toArray, List.set_cons_succ, List.set_cons_zero]; rfl) ?_)
        | (refine wpLoud_loadB rfl rfl 26 (.tmp 8) rfl (g7 + 1) 0 rfl (vb M) _ (fun z => rangeAt_blk (H8.out.below z.bel H8.out.lt)) Tryd.underlying26 rfl HIL.out _ (by simp only [Act.put, List.setIfInBounds_toArray, List.set_cons_succ, List.set_cons_zero]; rfl) ?_)
        | (refine wpLoud_call 31 rfl [] tok 16 (fun g => #[.slice A k.length ca, .slice D m.length cb]) rfl (fun _ _ h => by cases h) rfl (fun g w => by kernel_rfl) (fun g z hg => by
            refine (HRM.out g1 g1 A D ca cb z.wd (HRK.out.ext z.bel) (HRM2.out.ext z.bel) (Nat.le_trans hle z.bel.size) (Nat.le_trans hle z.bel.size)).mono ?_
            rintro e w' ⟨u, rfl, ho, hb⟩
            exact ⟨u, rfl, hb, own_base_le ho z.bel.size⟩) _ (by simp only [Act.put, List.setIfInBounds_toArray, List.set_cons_succ, List.set_cons_zero]; rfl) ?_)
        | (refine wpLoud_call 32 rfl [31] (.bool true) 15 (fun g => #[.slice (some ⟨g7, 0, none⟩) 32 32, g 31]) rfl (fun _ _ h => by cases h) rfl (fun g w => by kernel_rfl) (fun g z hg => by
            refine (HSA.out z (g 31) (hg 31 (by simp))).mono ?_
            rintro e w' ⟨rfl, hb⟩
            exact ⟨_, rfl, hb, rfl⟩) _ (by simp only [Act.put, List.setIfInBounds_toArray, List.set_cons_succ, List.set_cons_zero]; rfl) ?_)
        | (refine wpLoud_call 41 rfl [] (.bool true) 17 (fun g => #[.slice (some ⟨g1, 0, none⟩) k.length (k.length + 8), .slice A k.length ca]) rfl (fun _ _ h => by cases h) rfl (fun g w => by kernel_rfl) (fun g z hg => by
            refine (kept_c g1 g1 A ca k z.wd HKL.out (HY1.out.below z.bel HY1.out.lt) (HRK.out.ext z.bel) (by omega)).mono ?_
            rintro e w' ⟨rfl, n, rfl⟩
            exact ⟨_, rfl, belowDrewN n (Below.refl _ _), rfl⟩) _ (by simp only [Act.put, List.setIfInBounds_toArray, List.set_cons_succ, List.set_cons_zero]; rfl) ?_)
        | (refine wpLoud_call 46 rfl [] (.bool true) 17 (fun g => #[.slice (some ⟨g2, 0, none⟩) m.length (m.length + 8), .slice D m.length cb]) rfl (fun _ _ h => by cases h) rfl (fun g w => by kernel_rfl) (fun g z hg => by
            refine (kept_c g2 g1 D cb m z.wd HML.out (HY2.out.below z.bel HY2.out.lt) (HRM2.out.ext z.bel) (by omega)).mono ?_
            rintro e w' ⟨rfl, n, rfl⟩
            exact ⟨_, rfl, belowDrewN n (Below.refl _ _), rfl⟩) _ (by simp only [Act.put, List.setIfInBounds_toArray, List.set_cons_succ, List.set_cons_zero]; rfl) ?_)
        | (refine wpLoud_call 49 rfl [] (.bool true) 11 (fun g => #[]) rfl (fun _ _ h => by cases h) rfl (fun g w => by kernel_rfl) (fun g z hg => by
            refine (awake03_c z.wd (HROY.out.next z.bel)).mono ?_
            rintro e w' ⟨rfl, hb⟩
            exact ⟨_, rfl, hb, rfl⟩) _ (by simp only [Act.put, List.setIfInBounds_toArray, List.set_cons_succ, List.set_cons_zero]; rfl) ?_)
        | (refine wpLoud_plain rfl rfl rfl ?_; intro K hK; go_big_quiet_op; go_big_quiet_on))
      refine wpLoud_end [] (by rfl) ?_
      intro g z hg
      have HBZ := Lib.hid (HBY.out.trans (z.bel.mono hle))
      generalize z.wd = Y2 at *
      simp only [fill, Act.put, List.setIfInBounds_toArray, List.set_cons_succ, List.set_cons_zero]
      go_wp2_with fail
      go_ret
      exact ⟨rfl, by rw [hg1]; exact HBZ.out⟩
    · have q1 : ¬ (200 : Int) < (k.length : Int) := by omega
      have q2 : (200 : Int) < (m.length : Int) := by omega
      go_enter Tryd.func3, Tryd.ntmps3
      go_wp2_with (go_at_call 11; (refine (awake03_c w HRO.out).mono ?_); rintro e w1 ⟨rfl, hb⟩; have HB1 := Lib.hid hb; clear hb)
      go_ret
      exact ⟨rfl, HB1.out⟩
  · have q1 : (200 : Int) < (k.length : Int) := by omega
    go_enter Tryd.func3, Tryd.ntmps3
    go_wp2_with (go_at_call 11; (refine (awake03_c w HRO.out).mono ?_); rintro e w1 ⟨rfl, hb⟩; have HB1 := Lib.hid hb; clear hb)
    go_ret
    exact ⟨rfl, HB1.out⟩
end Go.Proofs.YthlmlmkabjppeaaDoor
