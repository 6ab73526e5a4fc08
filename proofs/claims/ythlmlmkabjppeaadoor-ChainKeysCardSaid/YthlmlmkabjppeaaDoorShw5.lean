/- Contracts: the start; the fingerprint. -/
import Derived.Test.YthlmlmkabjppeaaDoorShw3
import Derived.Test.YthlmlmkabjppeaaDoorShw4
import Derived.Test.YthlmlmkabjppeaaDoorLou
import Derived.Test.YthlmlmkabjppeaaDoorShaC
import Derived.WalkMore
namespace Go.Proofs.YthlmlmkabjppeaaDoor
open Go.RowKit
set_option linter.unusedVariables false
set_option maxRecDepth 100000 in
set_option maxHeartbeats 1000000 in
theorem start_c (w : World) : Calls Tryd.prog 47 #[] w fun e w' => e = .returned (.agg (vw h0)) ∧ Below w.heap.size w w' := by
  have zf := zero_8
  have zs1 : z8w.size = 8 := by rfl
  have zs2 : ¬ z8w = #[] := by intro h; have := congrArg Array.size h; rw [zs1] at this; cases this
  have HI := Lib.hid (show (Tryd.prog.info? 77).map (·.size) = some (vw h0).size by kernel_rfl)
  go_enter Tryd.func47, Tryd.ntmps47
  go_wp2_with (refine wpList_store_rowTo rfl 77 (.tmp 0) (.tmp 1) rfl rfl w.heap.size (vw h0) rfl rfl 77 z8w (by exact heap_alloc_new _ _) HI.out rfl (vw_one _) ?_)
  refine bodyPost_ret (results_cell_row rfl _ _ w.heap.size 77 (vw h0) (0, 0) _ rfl (setRow_heap _ _ z8w _ 77 (0, 0) (heap_alloc_new _ _)) Tryd.underlying77 rfl HI.out) rfl ?_
  exact ⟨rfl, ((Below.refl _ _).alloc (Nat.le_refl _) _).trans ⟨rfl, rfl, rfl, by simp [World.setRow], fun i hi => setRow_other _ _ i _ (by omega)⟩⟩
/-- how long a slice is -/
def lenOf : Value → Nat
  | .slice _ n _ => n
  | _ => 0
theorem i64_and63 (n : Int) : bits .and .i64 n 63 = n % 64 := by
  have h63 : (BitVec.ofInt 64 63).toNat = 2 ^ 6 - 1 := by decide
  have key : (BitVec.ofInt 64 n &&& BitVec.ofInt 64 63).toNat = (n % ((2 ^ 64 : Nat) : Int)).toNat % 2 ^ 6 := by
    rw [BitVec.toNat_and, BitVec.toNat_ofInt, h63, Nat.and_two_pow_sub_one_eq_mod]
  show IntKind.i64.wrap ((BitVec.ofInt 64 n &&& BitVec.ofInt 64 63).toNat : Nat) = n % 64
  rw [key, IntKind.wrap_i64]
  omega
theorem OwnB.lenOf {w : World} {base : Nat} {v : Value} {l : List Nat} (h : OwnB w base v l) : lenOf v = l.length := by
  obtain ⟨A, c, e, _⟩ := h.rd
  rw [e]; rfl
def zSum : Array Value := vb (List.replicate 32 0)
theorem zero_sum (w : World) : (zeroValue 26).run Tryd.prog w = .ok (.agg zSum) w := by kernel_rfl
theorem zs_at (m j : Nat) (h : j < zs m) : ((m + 1 + j : Nat) : Int) % 64 ≠ 56 := by unfold zs at h; omega
theorem zs_end (m : Nat) : ((m + 1 + zs m : Nat) : Int) % 64 = 56 := by unfold zs; omega
theorem zs_lt (m : Nat) : zs m < 64 := by unfold zs; omega
/-- the padding as far as it is laid -/
def padZ (m : List Nat) (j : Nat) : List Nat := m ++ [128] ++ List.replicate j 0
theorem padZ_len (m : List Nat) (j : Nat) : (padZ m j).length = m.length + 1 + j := by simp [padZ]; omega
theorem padZ_succ (m : List Nat) (j : Nat) : padZ m (j + 1) = padZ m j ++ [0] := by
  unfold padZ
  rw [List.replicate_succ', ← List.append_assoc]
theorem high_take (S : Nat) : high S 8 = [S / 72057594037927936 % 256, S / 281474976710656 % 256, S / 1099511627776 % 256, S / 4294967296 % 256, S / 16777216 % 256, S / 65536 % 256, S / 256 % 256, S % 256] := by
  simp only [high, List.nil_append, List.cons_append, Nat.div_div_eq_div_mul]
theorem high_at8 (S i : Nat) (h : i < 8) : (high S 8).getD i 0 = S / 2 ^ (56 - 8 * i) % 256 := by
  rw [high_take]
  match i, h with
  | 0, _ => rfl
  | 1, _ => rfl
  | 2, _ => rfl
  | 3, _ => rfl
  | 4, _ => rfl
  | 5, _ => rfl
  | 6, _ => rfl
  | 7, _ => simp
theorem pad_lt {m : List Nat} (h : ∀ c ∈ m, c < 256) : ∀ c ∈ pad m, c < 256 := by
  intro c hc
  unfold pad at hc
  simp only [List.mem_append] at hc
  rcases hc with ((hc | hc) | hc) | hc
  · exact h c hc
  · rw [List.mem_singleton.1 hc]; decide
  · rw [List.eq_of_mem_replicate hc]; decide
  · exact high_lt _ _ c hc
theorem rangeAt_vw {w : World} {g : Nat} {t : TypeId} {l : List Nat} (h : Blk w g t (vw l)) : w.rangeAt g 0 (vw l).toList := fun j u hu => by
  rw [Nat.zero_add, h.cell]
  simpa using hu
theorem Rd.take_ {w : World} {B : Nat} {A : Option Addr} {l : List Nat} (h : Rd w B A (byt l)) (k : Nat) : Rd w B A (byt (l.take k)) := fun hn => by
  obtain ⟨ad, e, hb, hc⟩ := h (fun h0 => hn (by unfold byt at h0 ⊢; rw [List.map_take, h0, List.take_nil]))
  refine ⟨ad, e, hb, fun j u hu => hc j u ?_⟩
  unfold byt at hu ⊢
  rw [List.map_take, List.getElem?_take] at hu
  split at hu
  · exact hu
  · cases hu
theorem Rd.drop64 {w : World} {B : Nat} {A : Addr} {l : List Nat} (h : Rd w B (some A) (byt l)) : Rd w B (some ⟨A.block, A.off + 64, none⟩) (byt (l.drop 64)) := fun hn => by
  obtain ⟨ad, e, hb, hc⟩ := h (fun h0 => hn (by unfold byt at h0 ⊢; rw [List.map_drop, h0, List.drop_nil]))
  injection e with e
  subst e
  refine ⟨_, rfl, hb, fun j u hu => ?_⟩
  have h1 := hc (64 + j) u (by unfold byt at hu ⊢; rw [List.map_drop, List.getElem?_drop] at hu; exact hu)
  have e1 : (Addr.add ⟨A.block, A.off + 64, none⟩ j) = A.add (64 + j) := by
    unfold Addr.add
    split
    · subst_vars; simp
    · simp; omega
  rw [e1]; exact h1
theorem u64_and3 (n : Int) : bits .and .u64 n 3 = n % 4 := by
  have h63 : (BitVec.ofInt 64 3).toNat = 2 ^ 2 - 1 := by decide
  have key : (BitVec.ofInt 64 n &&& BitVec.ofInt 64 3).toNat = (n % ((2 ^ 64 : Nat) : Int)).toNat % 2 ^ 2 := by
    rw [BitVec.toNat_and, BitVec.toNat_ofInt, h63, Nat.and_two_pow_sub_one_eq_mod]
  show IntKind.u64.wrap ((BitVec.ofInt 64 n &&& BitVec.ofInt 64 3).toNat : Nat) = n % 4
  rw [key, IntKind.wrap_u64]
  omega
theorem getD_mem (l : List Nat) (i : Nat) (h : i < l.length) : l.getD i 0 ∈ l := by
  rw [List.getD_eq_getElem?_getD, List.getElem?_eq_getElem h]
  exact List.getElem_mem _
theorem vb_at (l : List Nat) (i : Nat) (h : i < l.length) : (vb l)[i]? = some (.int .u8 (l.getD i 0 : Nat)) := by
  simp [vb, byt, List.getD_eq_getElem?_getD, h]
theorem vb_one (l : List Nat) : (vb l).all (·.oneCell') = true := by
  simp [vb, byt, Value.oneCell']
theorem high4 (n : Nat) : high n 4 = [n / 16777216 % 256, n / 65536 % 256, n / 256 % 256, n % 256] := by
  simp only [high, List.nil_append, List.cons_append, Nat.div_div_eq_div_mul]
theorem flat4_at (H : List Nat) : ∀ k, k / 4 < H.length → (H.flatMap fun w => high w 4).getD k 0 = H.getD (k / 4) 0 / 2 ^ (24 - 8 * (k % 4)) % 256 := by
  induction H with
  | nil => intro k h; simp at h
  | cons a H ih =>
    intro k h
    rw [List.flatMap_cons]
    rcases Nat.lt_or_ge k 4 with h4 | h4
    · rw [high4]
      match k, h4 with
      | 0, _ => rfl
      | 1, _ => rfl
      | 2, _ => rfl
      | 3, _ => simp
    · have h1 := ih (k - 4) (by simp at h; omega)
      rw [List.getD_eq_getElem?_getD, List.getElem?_append_right (by rw [high_len]; exact h4), high_len, ← List.getD_eq_getElem?_getD, h1]
      rw [show k / 4 = (k - 4) / 4 + 1 by omega, show (k - 4) % 4 = k % 4 by omega]
      simp
/-- what is laid of a row -/
def outZ (s : List Nat) (k : Nat) : List Nat := s.take k ++ List.replicate (s.length - k) 0
theorem outZ_zero {s : List Nat} {n : Nat} (h : s.length = n) : outZ s 0 = List.replicate n 0 := by simp [outZ, h]
theorem outZ_end (s : List Nat) : outZ s s.length = s := by simp [outZ]
theorem outZ_set (s : List Nat) (k : Nat) (h : k < s.length) : (outZ s k).set k (s.getD k 0) = outZ s (k + 1) := by
  unfold outZ
  have h1 : (s.take k).length = k := by simp; omega
  rw [List.set_append_right _ _ (by omega), h1, Nat.sub_self, show s.length - k = (s.length - (k + 1)) + 1 by omega, List.replicate_succ, List.set_cons_zero, List.take_add_one, List.getElem?_eq_getElem h, List.append_assoc]
  rw [show s.getD k 0 = s[k] by rw [List.getD_eq_getElem?_getD, List.getElem?_eq_getElem h]; rfl]
  rfl
theorem outZ_len (s : List Nat) (k : Nat) (h : k ≤ s.length) : (outZ s k).length = s.length := by simp [outZ]; omega
structure OutS (Z W : World) (B O : Nat) (H s : List Nat) (k : Nat) : Prop where
  bel : Below Z.heap.size Z W
  hB : Blk W B 77 (vw H)
  hO : Blk W O 26 (vb (outZ s k))
/-- the padding with the size's bytes as far as they are laid -/
def padS (m : List Nat) (i : Nat) : List Nat := padZ m (zs m.length) ++ (high (8 * m.length) 8).take i
theorem padS_zero (m : List Nat) : padS m 0 = padZ m (zs m.length) := by simp [padS]
theorem padS_end (m : List Nat) : padS m 8 = pad m := by
  unfold padS
  rw [List.take_of_length_le (by rw [high_len]; exact Nat.le_refl _)]
  rfl
theorem padS_len (m : List Nat) (i : Nat) (h : i ≤ 8) : (padS m i).length = m.length + 1 + zs m.length + i := by
  simp only [padS, List.length_append, padZ_len, List.length_take, high_len]; omega
theorem padS_succ (m : List Nat) (i : Nat) (h : i < 8) : padS m (i + 1) = padS m i ++ [(high (8 * m.length) 8).getD i 0] := by
  unfold padS
  rw [List.append_assoc, List.take_add_one, List.getElem?_eq_getElem (by rw [high_len]; exact h)]
  simp [List.getD_eq_getElem?_getD, high_len, h]
set_option maxRecDepth 100000 in
set_option maxHeartbeats 2000000 in
theorem of_c (g n cap : Nat) (ps : List Part) (m : List Nat) (w : World) (hm : cat ps n = m) (hml : ∀ c ∈ m, c < 256) (hn : ps.length = n) (hcells : ∀ k (h : k < ps.length), w.cell? ⟨g, k, none⟩ = some (pv ps[k])) (hg : g < w.heap.size)
    (hr : ∀ p ∈ ps, Rd w w.heap.size p.1 (byt p.2.2)) (hlen : m.length ≤ 10000) (hn2 : n ≤ 1000) (hcap : n ≤ cap) (ht : ∀ i, i < 64 → w.cell? ⟨0, i, none⟩ = some (.int .u32 (kc.getD i 0 : Nat))) (hw : 0 < w.heap.size) :
    Calls Tryd.prog 21 #[.slice (some ⟨g, 0, none⟩) n cap] w fun e w' => e = .returned (.agg (vb (sha m))) ∧ Below w.heap.size w w' := by
  obtain ⟨i0, hi, hz0, hz1, hz2⟩ := info_parts byteInfo
  have hcon := fun W (hb : Below w.heap.size w W) => concatN_c g n cap ps W hn (fun k h => (hb.cell (p := ⟨g, k, none⟩) hg).trans (hcells k h)) (Nat.lt_of_lt_of_le hg hb.size) (fun p hp => ((hr p hp).below hb).more hb.size) (by rw [hm]; omega) hn2 hcap
  rw [hm] at hcon
  have HCON := Lib.hid hcon
  have HML := Lib.hid hml
  have HLEN := Lib.hid hlen
  have HT := Lib.hid ht
  have HI8 := Lib.hid (show (Tryd.prog.info? 77).map (·.size) = some (vw h0).size by kernel_rfl)
  clear hcon hm hcells hr hml ht
  go_enter Tryd.func21, Tryd.ntmps21
  have zf := zero_sum
  have zs1 : zSum.size = 32 := by rfl
  have zs2 : ¬ zSum = #[] := by intro h; have := congrArg Array.size h; rw [zs1] at this; cases this
  go_upto_region 1 with fail
  obtain ⟨Z, hZ⟩ : ∃ Z, Z = w.alloc (Obj.cells zSum 26) := ⟨_, rfl⟩
  have hbz : Below w.heap.size w Z := by rw [hZ]; exact (Below.refl _ _).alloc (Nat.le_refl _) _
  have h2 : Blk Z w.heap.size 26 zSum := by rw [hZ]; exact Blk.new _ _ _
  rw [← hZ]
  clear hZ zf zs1 zs2
  have HZ := Lib.hid hbz
  have H2 := Lib.hid h2
  clear hbz h2
  have esz : IntKind.u64.wrap ((m.length : Int) * 8) = ((8 * m.length : Nat) : Int) := by simp [IntKind.wrap, IntKind.signed, IntKind.bits]; omega
  have ec : IntKind.u64.wrap (m.length : Int) = (m.length : Int) := by simp [IntKind.wrap, IntKind.signed, IntKind.bits]; omega
  go_step3
  go_wp2_with (first
    | (go_at_call 46; (refine (HCON.out _ HZ.out).mono ?_); rintro e w1 ⟨v1, rfl, ho, hb⟩; obtain ⟨A1, k1, rfl, _, _, _⟩ := ho.rd; have HO1 := Lib.hid (show OwnB w1 Z.heap.size _ m from ho); have HB1 := Lib.hid (show Below Z.heap.size Z w1 from hb); clear ho hb)
    | (at_builtin; refine wpList_app _ rfl (.tmp 15) (.tmp 16) _ rfl Z.heap.size 5 i0 (.int .u8 0) 1 1 Tryd.underlying22 hi hz0 hz1 hz2 rfl (by decide) _ _ _ rfl (HO1.out.alloc _) _ _ 1 1 [.int .u8 (128 : Nat)] rfl rfl (by exact rd_one _ _ _) (byt_one [128]) (by omega) (by omega) (by have := HB1.out.size; simp; omega) ?_; intro v3 w3 hap; have HO3 := Lib.hid (show OwnB w3 Z.heap.size v3 (padZ m 0) from by have h1 := OwnB.snoc hap; simpa [padZ] using h1); have HB3 := Lib.hid (show Below Z.heap.size Z w3 from (HB1.out.alloc HB1.out.size _).trans (hap.below (HO1.out.alloc _) (by have := HB1.out.size; simp; omega))); clear hap))
  go_loopw [3] (fun v wr => ∃ j : Nat, j ≤ zs m.length ∧ OwnB wr Z.heap.size v (padZ m j) ∧ Below Z.heap.size Z wr) (fun v _ => m.length + 1 + zs m.length - lenOf v)
  case atStart => exact ⟨0, Nat.zero_le _, HO3.out, HB3.out⟩
  case round =>
    rename World => wr
    obtain ⟨j, hj, ho, hb⟩ := hrel
    have hzl := zs_lt m.length
    obtain ⟨A4, k4, rfl, _, _, _⟩ := ho.rd
    have HO4 := Lib.hid ho
    have HB4 := Lib.hid hb
    have hL := padZ_len m j
    have h63 := i64_and63 ((padZ m j).length : Int)
    have HL4 := Lib.hid hL
    clear ho hb HO1 HB1 HO3 HB3
    by_cases hlt : j < zs m.length
    · have hne := zs_at m.length j hlt
      rw [← hL] at hne
      have tne : ((((padZ m j).length : Int) % 64) != 56) = true := by rw [bne_iff_ne]; exact hne
      clear hne hL
      have HSU := Lib.hid (padZ_succ m j)
      have HPL := Lib.hid (padZ_len m (j + 1))
      go_wp2_with (at_builtin; refine wpList_app _ rfl (.tmp 22) (.tmp 23) _ rfl Z.heap.size 5 i0 (.int .u8 0) 1 1 Tryd.underlying22 hi hz0 hz1 hz2 rfl (by decide) _ _ _ rfl (HO4.out.alloc _) _ _ 1 1 [.int .u8 (0 : Nat)] rfl rfl (by exact rd_one _ _ _) (byt_one [0]) (by have := HL4.out; have := HLEN.out; omega) (by have := HL4.out; have := HLEN.out; omega) (by have := HB4.out.size; simp; omega) ?_; intro v5 w5 hap; have HO5 := Lib.hid (show OwnB w5 Z.heap.size v5 (padZ m (j + 1)) from by rw [HSU.out]; exact OwnB.snoc hap); have HB5 := Lib.hid (show Below Z.heap.size Z w5 from (HB4.out.alloc HB4.out.size _).trans (hap.below (HO4.out.alloc _) (by have := HB4.out.size; simp; omega))); clear hap)
      refine ⟨⟨j + 1, by omega, HO5.out, HB5.out⟩, ?_⟩
      have := HO5.out.lenOf; have := HPL.out; have := HO4.out.lenOf; have := HL4.out
      omega
    · obtain rfl : j = zs m.length := by omega
      have hend := zs_end m.length
      rw [← hL] at hend
      have tne : ((((padZ m (zs m.length)).length : Int) % 64) != 56) = false := by rw [bne_eq_false_iff_eq]; exact hend
      clear hend hL
      have HNL := Lib.hid (show (padZ m (zs m.length)).length ≤ 20000 by have := HL4.out; have := HLEN.out; omega)
      clear hlen
      go_wp2_with fail
      go_loopw [3, 5] (fun v vi wr => ∃ j : Nat, j ≤ 8 ∧ vi = .int .i64 (56 - 8 * (j : Int)) ∧ OwnB wr Z.heap.size v (padS m j) ∧ Below Z.heap.size Z wr) (fun _ vi _ => match vi with | .int _ n => (n + 8).toNat | _ => 0)
      case atStart => exact ⟨0, Nat.zero_le _, rfl, by rw [padS_zero]; exact HO4.out, HB4.out⟩
      case round =>
        rename World => wt
        obtain ⟨i, hi8, rfl, ho, hb⟩ := hrel
        obtain ⟨A6, k6, rfl, _, _, _⟩ := ho.rd
        have HO6 := Lib.hid ho
        have HB6 := Lib.hid hb
        have HL6 := Lib.hid (padS_len m i hi8)
        clear ho hb HO4 HB4
        by_cases hlt : i < 8
        · have HS6 := Lib.hid (padS_succ m i hlt)
          have HN6 := Lib.hid (show (8 * (m.length : Int) / 2 ^ (56 - 8 * i) % 256) = (((high (8 * m.length) 8).getD i 0 : Nat) : Int) by rw [high_at8 _ _ hlt]; simp)
          go_wp2_with (at_builtin; rw [HN6.out]; refine wpList_app _ rfl (.tmp 29) (.tmp 35) _ rfl Z.heap.size 5 i0 (.int .u8 0) 1 1 Tryd.underlying22 hi hz0 hz1 hz2 rfl (by decide) _ _ _ rfl (HO6.out.alloc _) _ _ 1 1 [.int .u8 ((high (8 * m.length) 8).getD i 0 : Nat)] rfl rfl (by exact rd_one _ _ _) (byt_one [_]) (by have := HL6.out; have := HLEN.out; omega) (by have := HL6.out; have := HLEN.out; omega) (by have := HB6.out.size; simp; omega) ?_; intro v7 w7 hap; have HO7 := Lib.hid (show OwnB w7 Z.heap.size v7 (padS m (i + 1)) from by rw [HS6.out]; exact OwnB.snoc hap); have HB7 := Lib.hid (show Below Z.heap.size Z w7 from (HB6.out.alloc HB6.out.size _).trans (hap.below (HO6.out.alloc _) (by have := HB6.out.size; simp; omega))); clear hap)
          refine ⟨⟨i + 1, by omega, ?_, HO7.out, HB7.out⟩, ?_⟩
          · congr 1; omega
          · show (56 - 8 * (i : Int) - 8 + 8).toNat < (56 - 8 * (i : Int) + 8).toNat; omega
        · obtain rfl : i = 8 := by omega
          have HO8 := Lib.hid (show OwnB wt Z.heap.size _ (pad m) from by have := HO6.out; rw [padS_end] at this; exact this)
          have zf := zero_8
          have zs1 : z8w.size = 8 := by rfl
          have zs2 : ¬ z8w = #[] := by intro h; have := congrArg Array.size h; rw [zs1] at this; cases this
          go_wp2_with (first
            | (go_at_call 47; (refine (start_c _).mono ?_); rintro e w9 ⟨rfl, hb9⟩; have HB9 := Lib.hid hb9; clear hb9)
            | (refine wpList_store_rowTo rfl 77 (.tmp 6) (.tmp 37) rfl rfl w9.heap.size (vw h0) rfl rfl 77 z8w (by exact heap_alloc_new _ _) HI8.out rfl (vw_one _) ?_))
          obtain ⟨Y, hY⟩ : ∃ Y, Y = (w9.alloc (Obj.cells z8w 77)).setRow w9.heap.size (vw h0) := ⟨_, rfl⟩
          obtain ⟨B, hB⟩ : ∃ B, B = w9.heap.size := ⟨_, rfl⟩
          have hzB : Z.heap.size ≤ B := by rw [hB]; exact Nat.le_trans HB6.out.size HB9.out.size
          have hbY : Below B w9 Y := by rw [hY, hB]; exact ((Below.refl _ _).alloc (Nat.le_refl _) _).trans ⟨rfl, rfl, rfl, by simp [World.setRow], fun i hi => setRow_other _ _ i _ (by omega)⟩
          have hblk : Blk Y B 77 (vw h0) := by rw [hY, hB]; exact setRow_heap _ _ z8w _ _ (0, 0) (heap_alloc_new _ _)
          rw [← hY, ← hB]
          obtain ⟨A9, c9, e9, hc9, _, hr9⟩ := HO8.out.rd
          have hBK := Lib.hid hblk
          have hr2 := (hr9.below HB9.out).more HB9.out.size
          rw [← hB] at hr2
          have hr3 := hr2.below hbY
          injection e9 with e91 e92 e93
          subst e91 e93
          have hpl := pad_len m
          have hp64 := pad_64 m
          obtain ⟨ad9, e9a, hb9a, _⟩ := hr3 (by intro h0; have := congrArg List.length h0; rw [byt_len, List.length_nil] at this; omega)
          subst e9a
          obtain ⟨nb, hnb⟩ : ∃ nb, nb = (pad m).length / 64 := ⟨_, rfl⟩
          have hpn : (pad m).length = 64 * nb := by omega
          have hnb0 : 0 < nb := by omega
          have hnbl : nb ≤ 1000 := by have := zs_lt m.length; have := HLEN.out; omega
          have HBL := Lib.hid hblk
          have HRB := Lib.hid hr3
          have HBZ := Lib.hid (show Below Z.heap.size Z Y from (HB6.out.trans (HB9.out.mono HB6.out.size)).trans (hbY.mono hzB))
          have HPN := Lib.hid hpn
          rw [hpn] at hc9
          rw [padS_end, hpn]
          have HPD := Lib.hid (show ∀ c ∈ pad m, c < 256 from pad_lt HML.out)
          clear hblk zf zs1 zs2 hr3 hr2 hr9 hpl hp64 hnb hpn hY hB hbY e92 HB6 HB9 HO6 HO8 HL6
          go_step3
          go_wp2_with fail
          go_loopw [3] (fun v wr => ∃ j r : Nat, j + r + 1 = nb ∧ (∃ A c, v = .slice (some A) (64 * (r + 1)) c ∧ 64 * (r + 1) ≤ c ∧ Rd wr B (some A) (byt ((pad m).drop (64 * j)))) ∧ Blk wr B 77 (vw (fld (pad m) j)) ∧ Below Z.heap.size Z wr) (fun v _ => lenOf v)
          case atStart => exact ⟨0, nb - 1, by omega, ⟨ad9, k6, by rw [show nb - 1 + 1 = nb by omega], by rw [show nb - 1 + 1 = nb by omega]; exact hc9, by simpa using HRB.out⟩, HBL.out, HBZ.out⟩
          case round =>
            clear HBL HRB HBZ hc9
            rename World => wr
            obtain ⟨j, r, hjr, ⟨A, c, rfl, hc, hr⟩, hbl, hb⟩ := hrel
            have HR := Lib.hid hr
            have HBL := Lib.hid hbl
            have HBE := Lib.hid hb
            clear hr hbl hb
            have hc64 : 64 ≤ c := by omega
            have hcz : (64 : Int) ≤ (c : Int) := by omega
            have hr64 : 64 ≤ 64 * (r + 1) := by omega
            have HSP := Lib.hid (fun W (hb : Below wr.heap.size wr W) => step_c B A c (((pad m).drop (64 * j)).take 64) (fld (pad m) j) W (fun c hc => HPD.out c (List.mem_of_mem_drop (List.mem_of_mem_take hc))) (((HR.out.take_ 64).below (hb.mono (Nat.le_of_lt HBL.out.lt)))) (Nat.le_trans (Nat.le_of_lt HBL.out.lt) hb.size) (by rw [List.length_take, List.length_drop, HPN.out]; omega) hc64 (fld_len _ _) (fld_lt _ _) (fun i hi => ((hb.mono (Nat.le_refl _)).cell (p := ⟨0, i, none⟩) (Nat.lt_of_lt_of_le hw (Nat.le_trans (Nat.le_trans HZ.out.size HBE.out.size) (Nat.le_refl _)))).trans ((HBE.out.cell (p := ⟨0, i, none⟩) (Nat.lt_of_lt_of_le hw HZ.out.size)).trans ((HZ.out.cell (p := ⟨0, i, none⟩) hw).trans (HT.out i hi)))) (Nat.lt_of_lt_of_le hw (Nat.le_trans HZ.out.size (Nat.le_trans HBE.out.size hb.size))))
            have HIF := Lib.hid (show (Tryd.prog.info? 77).map (·.size) = some (vw (fld (pad m) j)).size by rw [vw_size, fld_len]; kernel_rfl)
            have HIG := Lib.hid (show (Tryd.prog.info? 77).map (·.size) = some (vw (fld (pad m) j)).toList.length by rw [Array.length_toList, vw_size, fld_len]; kernel_rfl)
            go_wp2_with fail
            refine wp_region_loudTail 4 wr [] (fun _ _ _ => True) (by kernel_rfl) (by kernel_rfl) (by kernel_rfl) (by kernel_rfl) (fun _ _ _ _ h hb => True.intro) (Below.refl _ _).drew ?_
            simp only [List.take_succ_cons, List.take_zero, List.drop_succ_cons, List.drop_zero]
            repeat (first
              | (refine wpLoud_loadB rfl rfl 77 (.tmp 6) rfl B 0 rfl (vw (fld (pad m) j)) _ (fun z => rangeAt_vw (HBL.out.below z.bel HBL.out.lt)) Tryd.underlying77 rfl HIG.out _ (by simp only [Act.put, List.setIfInBounds_toArray, List.set_cons_succ, List.set_cons_zero]; rfl) ?_)
              | (refine wpLoud_call 41 rfl [] (.agg (vw (fld (pad m) (j + 1)))) 48 (fun g => #[.agg (vw (fld (pad m) j)), .slice (some A) 64 c]) rfl (fun _ _ h => by cases h) rfl (fun g w => by kernel_rfl) (fun g z hg => by
                  refine (HSP.out _ z.bel).mono ?_
                  rintro e w' ⟨rfl, hb⟩
                  exact ⟨_, rfl, hb, rfl⟩) _ (by simp only [Act.put, List.setIfInBounds_toArray, List.set_cons_succ, List.set_cons_zero]; rfl) ?_)
              | (refine wpLoud_plain rfl rfl rfl ?_; intro K hK; go_big_quiet_op; go_big_quiet_on))
            refine wpLoud_end [] (by rfl) ?_
            intro g' z hg'
            have HBL2 := Lib.hid (HBL.out.below z.bel HBL.out.lt)
            have HBY := Lib.hid z.bel
            have HIJ := Lib.hid (show (Tryd.prog.info? 77).map (·.size) = some (vw (fld (pad m) (j + 1))).size by rw [vw_size, fld_len]; kernel_rfl)
            have HIK := Lib.hid (show (vw (fld (pad m) j)).size = (vw (fld (pad m) (j + 1))).size by rw [vw_size, fld_len, vw_size, fld_len])
            generalize z.wd = Y2 at *
            clear hg'
            simp only [fill, Act.put, List.setIfInBounds_toArray, List.set_cons_succ, List.set_cons_zero]
            refine wpList_store_rowTo rfl 77 (.tmp 6) (.tmp 41) rfl rfl B (vw (fld (pad m) (j + 1))) rfl rfl 77 (vw (fld (pad m) j)) HBL2.out HIJ.out HIK.out (vw_one _) ?_
            obtain ⟨Y3, hY3⟩ : ∃ Y3, Y3 = Y2.setRow B (vw (fld (pad m) (j + 1))) := ⟨_, rfl⟩
            have hb3 : Blk Y3 B 77 (vw (fld (pad m) (j + 1))) := by rw [hY3]; exact setRow_heap _ _ _ _ _ (0, 0) HBL2.out
            have hq3 : Below B Y2 Y3 := by rw [hY3]; exact ⟨rfl, rfl, rfl, by simp [World.setRow], fun i hi => setRow_other _ _ i _ (by omega)⟩
            rw [← hY3]
            have HB3' := Lib.hid hb3
            have HQ3 := Lib.hid ((HBY.out.mono (Nat.le_of_lt HBL.out.lt)).trans hq3)
            clear hb3 hq3 hY3 HBL2 HBY HIJ HIK HIF HIG
            rcases Nat.eq_zero_or_pos r with hr0 | hr0
            · subst hr0
              obtain ⟨A2, hA2⟩ : ∃ A2 : Option Addr, (if c = 64 then some A else some { block := A.block, off := A.off + 64 }) = A2 := ⟨_, rfl⟩
              have zf := zero_sum
              have zs1 : zSum.size = 32 := by rfl
              have zs2 : ¬ zSum = #[] := by intro h; have := congrArg Array.size h; rw [zs1] at this; cases this
              have hsh : sha m = (fld (pad m) (j + 1)).flatMap fun w => high w 4 := by
                unfold sha
                rw [HPN.out, show 64 * nb / 64 = j + 1 by omega]
              have HSH := Lib.hid hsh
              have HFL := Lib.hid (fld_len (pad m) (j + 1))
              have HFT := Lib.hid (fld_lt (pad m) (j + 1))
              have hBlt := HB3'.out.lt
              have HBE3 := Lib.hid (show Below Z.heap.size Z Y3 from HBE.out.trans (HQ3.out.mono hzB))
              clear hsh hjr hc hr64 HR HBL HBE HQ3 HSP HPN HPD
              generalize fld (pad m) (j + 1) = H at *
              go_wp2_with fail
              obtain ⟨Y4, hY4⟩ : ∃ Y4, Y4 = Y3.alloc (Obj.cells zSum 26) := ⟨_, rfl⟩
              have HO := Lib.hid (show OutS Z Y4 B Y3.heap.size H (sha m) 0 by
                rw [hY4]
                exact ⟨HBE3.out.alloc HBE3.out.size _, HB3'.out.alloc _, by rw [outZ_zero (by rw [sha_len])]; exact Blk.new _ _ _⟩)
              rw [← hY4]
              clear zf zs1 zs2 hY4 hA2
              obtain ⟨O, hO⟩ : ∃ O, O = Y3.heap.size := ⟨_, rfl⟩
              rw [← hO] at HO hBlt ⊢
              have hzO : Z.heap.size ≤ O := by omega
              have hBO : B ≠ O := by omega
              clear hO hBlt
              go_loopw [47] (fun i wr => ∃ k : Nat, k ≤ 32 ∧ i = .int .i64 k ∧ OutS Z wr B O H (sha m) k) (fun i _ => 32 - (intOf i).toNat)
              case atStart => exact ⟨0, by omega, rfl, HO.out⟩
              case round =>
                rename World => wo
                obtain ⟨k, hk, rfl, hs⟩ := hrel
                have HK := Lib.hid hs
                clear hs HO
                by_cases hlt : k < 32
                · have f1 := u64_and3 (k : Int)
                  have ec := HK.out.hB.cell (k / 4)
                  rw [vw_at _ _ (by rw [HFL.out]; omega)] at ec
                  have hl := HFT.out _ (getD_mem H (k / 4) (by rw [HFL.out]; omega))
                  have eo := HK.out.hO.cell k
                  rw [vb_at _ k (by rw [outZ_len _ _ (by rw [sha_len]; omega), sha_len]; exact hlt)] at eo
                  have ef := HK.out.hO.free k
                  go_wp2_with fail
                  refine ⟨⟨k + 1, by omega, by push_cast; rfl, ?_⟩, ?_⟩
                  · have h1 : Value.int .u8 ((H[k / 4]?.getD 0 : Nat) / 2 ^ (24 - 8 * (k % 4)) % 256 : Int) = .int .u8 (((sha m).getD k 0 : Nat) : Int) := by
                      rw [HSH.out, flat4_at H k (by rw [HFL.out]; omega), List.getD_eq_getElem?_getD]
                      simp
                    rw [h1]
                    refine ⟨HK.out.bel.setCell hzO _, HK.out.hB.far hBO _, ?_⟩
                    rw [← outZ_set _ _ (by rw [sha_len]; exact hlt), ← vb_set]
                    exact HK.out.hO.set_ _ _
                  · show 32 - (intOf (Value.int IntKind.i64 (k + 1))).toNat < 32 - (intOf (Value.int IntKind.i64 k)).toNat
                    simp [intOf]; omega
                · obtain rfl : k = 32 := by omega
                  have h3 := HK.out.hO
                  rw [show (32 : Nat) = (sha m).length from (sha_len m).symm, outZ_end] at h3
                  have HO3 := Lib.hid h3
                  have HZS := Lib.hid (H2.out.below HK.out.bel H2.out.lt)
                  have HIS := Lib.hid (show (Tryd.prog.info? 26).map (·.size) = some (vb (sha m)).size by rw [vb_size, sha_len]; kernel_rfl)
                  clear h3
                  go_wp2_with (first
                    | (refine wpList_load_row rfl 26 (.tmp 7) rfl O rfl 26 (vb (sha m)) (0, 0) _ (by exact HO3.out) Tryd.underlying26 rfl HIS.out ?_)
                    | (refine wpList_store_rowTo rfl 26 (.tmp 2) (.tmp 64) rfl rfl w.heap.size (vb (sha m)) rfl rfl 26 zSum (by exact HZS.out) HIS.out (by rw [vb_size, sha_len]; rfl) (vb_one _) ?_))
                  rw [Exit.noGoto_ret]
                  refine bodyPost_ret (results_cell_row rfl _ _ w.heap.size 26 (vb (sha m)) (0, 0) _ rfl (setRow_heap _ _ zSum _ 26 (0, 0) HZS.out) Tryd.underlying26 rfl HIS.out) rfl ?_
                  exact ⟨rfl, (HZ.out.trans (HK.out.bel.mono HZ.out.size)).trans ⟨rfl, rfl, rfl, by simp [World.setRow], fun i hi => setRow_other _ _ i _ (by omega)⟩⟩
            · have hc' : ¬ c = 64 := by omega
              have e0 : (((64 * (r + 1) - 64 : Nat) : Int) == 0) = false := by simp; omega
              go_wp2_with fail
              refine ⟨⟨j + 1, r - 1, by omega, ⟨⟨A.block, A.off + 64, none⟩, c - 64, by congr 1; omega, by omega, ?_⟩, HB3'.out, HBE.out.trans (HQ3.out.mono hzB)⟩, ?_⟩
              · have h1 := (HR.out.below HQ3.out).drop64
                rw [List.drop_drop] at h1
                exact h1
              · show 64 * (r + 1) - 64 < 64 * (r + 1); omega
end Go.Proofs.YthlmlmkabjppeaaDoor
