/- Contract: Refresh. -/
import Derived.Test.YtldanlglefgobaaRef1
namespace Go.Proofs.Ytldanlglefgobaa
open Go.RowKit
set_option linter.unusedVariables false
theorem sys_at2 (s d : List Nat) (t x i : Nat) (h : i < 32) : (sys s d t x).getD i 0 = sy s d t x i := sys_at s d t x i h
theorem tab_lt {w : World} {B : Nat} {t : Array Nat} (h : TabAt w B t) : B < w.heap.size := block_lt_tab h
set_option maxRecDepth 100000 in
set_option maxHeartbeats 1000000 in
theorem refresh_ok (n cap : Nat) (ad : Addr) (L : List Nat) (t : Nat) (A : Option Addr) (cd : Nat) (d : List Nat) (w : World) (hn : 0 < n) (hn2 : n ≤ 1000) (hcap : n ≤ cap) (hcap2 : cap ≤ 9223372036854775807) (hL : L.length = n * 33) (hl : ∀ c ∈ L, c < 256) (hb : ad.block < w.heap.size) (ha : AtA w ad (byt L)) (hp : plc L n = 0)
    (ht : 1 ≤ t) (ht2 : t ≤ 1000000000) (hd : ∀ c ∈ d, c < 256) (hdl : d.length ≤ 1000000) (hr : Rd w w.heap.size A (byt d)) :
    Calls Try.prog 27 #[.slice (some ad) n cap, .int .i64 t, .slice A d.length cd] w (GivesS n (rfL L d t n) 0 w) := by
  obtain ⟨i0, hi0, hz0, hz1, hz2⟩ := info_parts shInfo
  have zs := zero_key
  have zs2 := zero_share
  have zn := z32_size
  have ze := z32_ne
  have zn3 := z33_size
  have ze3 := z33_ne
  have tt : decide ((t : Int) < 1) = false := decide_eq_false (by omega)
  have hpc := fun W (hb : Below w.heap.size w W) => places_c n cap ad L W hn hn2 hcap hcap2 hL hl (Nat.lt_of_lt_of_le ‹ad.block < w.heap.size› hb.size) (ha.below hb ‹ad.block < w.heap.size›)
  rw [hp] at hpc
  have HPC := Lib.hid hpc
  have HSC := Lib.hid (fun B (x : Nat) W (hx : x < 256) (ht : TabAt W B ftab) (hr : Rd W W.heap.size A (byt d)) => (show Calls Try.prog 33 #[.pointer (some ⟨B, 0, none⟩), .agg z32, .int .u8 (x : Int), .int .i64 t, .slice A d.length cd] W fun e w' => e = .returned (.agg (vb (shr zs32 d t x))) ∧ Below W.heap.size W w' from share_c B zs32 d x t cd A W ht (by decide) zs32_lt hd hx ht2 hr hdl))
  have HA := Lib.hid ha
  have HL := Lib.hid hl
  have HR := Lib.hid hr
  have HD := Lib.hid hd
  clear hpc ha hl hp hr hd ht
  go_enter Try.func27, Try.ntmps27
  go_wp2_with (first
    | (go_at_call 34; ((with_reducible refine (HPC.out _ (by exact Below.refl _ _)).mono ?_); rintro e w2 ⟨rfl, hb2⟩; have HB2 := Lib.hid hb2; clear hb2))
    | (go_at_call 13; ((with_reducible refine (build_c _).mono ?_); rintro e w3 ⟨rfl, hz3, htab, hb3⟩; have HT := Lib.hid htab; have HB3 := Lib.hid hb3; clear htab hb3 hz3)))
  obtain ⟨T, hT⟩ : ∃ T, T = w2.heap.size := ⟨_, rfl⟩
  have hbel3 : Below w.heap.size w w3 := HB2.out.trans (HB3.out.mono HB2.out.size)
  have HBEL := Lib.hid hbel3
  try rw [← hT]
  have HT2 := Lib.hid (show TabAt w3 T ftab by rw [hT]; exact HT.out)
  clear hT HT HB3 HB2 hbel3
  go_loopw [10, 26] (fun o i wr => ∃ j : Nat, j ≤ n ∧ i = .int .i64 j ∧ OwnS wr w.heap.size o j (rfL L d t j) ∧ TabAt wr T ftab ∧ Below w.heap.size w wr ∧ ∀ g, o.ownBlock = some g → T ≠ g) (fun _ i _ => n - (intOf i).toNat)
  case atStart => exact ⟨0, by omega, rfl, OwnS.nil_ _ _, HT2.out, HBEL.out, fun g h => (by cases h)⟩
  case round =>
    rename World => wr
    obtain ⟨j, hj, rfl, ho, htb, hbel, hap0⟩ := hrel
    have HAP := Lib.hid hap0
    have HO := Lib.hid ho
    have HTB := Lib.hid htb
    have HBW := Lib.hid hbel
    clear ho htb hbel hap0 HT2 HBEL
    by_cases hlt : j < n
    · have hAt := HA.out.below HBW.out hb
      have HRow := Lib.hid (hAt.share j)
      have hrl : (shR L j).length = 33 := shR_len hL hlt
      have HSB := Lib.hid (share_bytes (shR L j) hrl)
      have HSS := Lib.hid (share_size (shR L j) hrl)
      have HZS := Lib.hid (z33_vb (shR L j) hrl)
      have HRL := Lib.hid hrl
      clear hAt hrl
      go_upto_region 11 with (first
        | (refine wpList_load_at rfl 48 (.tmp 28) rfl (ad.add (j * 33)) rfl (shR L j) _ HRow.out Try.underlying48 rfl HSB.out ?_)
        | (refine wpList_store_rowTo rfl 48 (.tmp 12) (.tmp 29) rfl rfl wr.heap.size (vb (shR L j)) rfl rfl 48 z33 (by exact heap_alloc_new _ _) HSS.out HZS.out (vb_one _) ?_))
      obtain ⟨Z, hZ⟩ : ∃ Z, Z = (wr.alloc (.cells z33 48)).setRow wr.heap.size (vb (shR L j)) := ⟨_, rfl⟩
      have hbk : Blk Z wr.heap.size 48 (vb (shX L j :: gTo L d t j 0)) := by rw [hZ, gTo_zero hL d t j hlt]; exact Blk.row (old := z33) (heap_alloc_new wr _)
      have hbz : Below wr.heap.size wr Z := by rw [hZ]; exact Below.setRow ((Below.refl _ _).alloc (Nat.le_refl _) _) (Nat.le_refl _) _
      rw [← hZ]
      obtain ⟨g1, hg1⟩ : ∃ g1, g1 = wr.heap.size := ⟨_, rfl⟩
      have hrf : RfW w T g1 _ j (rfL L d t j) (shX L j :: gTo L d t j 0) Z := ⟨HTB.out.below hbz (tab_lt HTB.out), by rw [hg1]; exact hbk, own_keep (S := fun _ => False) HO.out (Only.of_below hbz) (fun _ _ h => h), fun g h => by have := own_lt HO.out g h; omega, HBW.out.trans (hbz.mono HBW.out.size), by have := tab_lt HTB.out; omega, by have := HBW.out.size; omega⟩
      have HRF := Lib.hid hrf
      try rw [← hg1]
      clear hbk hbz hZ hrf HO HTB HBW hg1
      have c0 : Z.cell? ⟨g1, 0, none⟩ = some (.int .u8 (shX L j : Nat)) := (HRF.out.b1.cell 0).trans (vb_at _ 0 (by simp))
      have hxl := shX_lt HL.out j
      have HXE := Lib.hid (rfl : shX L j = shX L j)
      obtain ⟨x, hx⟩ : ∃ x, x = shX L j := ⟨_, rfl⟩
      have hsl : (shr zs32 d t x).length = 33 := shr_len _ _ _ _
      have HS1 := Lib.hid (share_size (shr zs32 d t x) hsl)
      have HZ1 := Lib.hid (z33_vb (shr zs32 d t x) hsl)
      have HYB := Lib.hid (key_bytes (sys zs32 d t x) (sys_len _ _ _ _))
      rw [← hx] at c0 hxl
      have HX := Lib.hid hx
      clear hsl hx HXE
      go_upto_region 13 with (first
        | (go_at_call 33; ((with_reducible refine (HSC.out T x _ hxl (by exact HRF.out.bt) (by exact (HR.out.below HRF.out.bel).more HRF.out.bel.size)).mono ?_); rintro e w4 ⟨rfl, hb4⟩; have HR4 := Lib.hid (HRF.out.next hb4); have HSZ4 := Lib.hid hb4; clear hb4))
        | (refine wpList_store_rowTo rfl 48 (.tmp 13) (.tmp 36) rfl rfl w4.heap.size (vb (shr zs32 d t x)) rfl rfl 48 z33 (by exact heap_alloc_new _ _) HS1.out HZ1.out (vb_one _) ?_; have hrg : AtA ((w4.alloc (.cells z33 48)).setRow w4.heap.size (vb (shr zs32 d t x))) ⟨w4.heap.size, 1, none⟩ (byt (sys zs32 d t x)) := (fun q u hu => by rw [Addr.add_mid, (Blk.row (old := z33) (heap_alloc_new w4 _) : Blk _ w4.heap.size 48 (vb (shr zs32 d t x))).cell (1 + q)]; rw [vb, List.getElem?_toArray, ← hu, Nat.add_comm 1 q]; rfl); have HRG := Lib.hid hrg; clear hrg)
        | (refine wpList_load_at rfl 43 (.tmp 37) rfl ⟨w4.heap.size, 1, none⟩ rfl (sys zs32 d t x) _ HRG.out Try.underlying43 rfl HYB.out ?_))
      obtain ⟨V, hV⟩ : ∃ V, V = (w4.alloc (.cells z33 48)).setRow w4.heap.size (vb (shr zs32 d t x)) := ⟨_, rfl⟩
      have HRV := Lib.hid (HR4.out.next (show Below w4.heap.size w4 V by rw [hV]; exact Below.setRow ((Below.refl _ _).alloc (Nat.le_refl _) _) (Nat.le_refl _) _))
      rw [← hV]
      clear hV HR4 HSZ4 HRG HRF c0
      have hyl := sys_len zs32 d t x
      have hyg : ∀ m, m < 32 → (sys zs32 d t x).getD m 0 = sy zs32 d t x m := fun m hm => sys_at _ _ _ _ _ hm
      generalize sys zs32 d t x = Y at *
      have HYL := Lib.hid hyl
      have HYG := Lib.hid hyg
      clear hyl hyg
      have e27 : decide (j < n) = true := decide_eq_true hlt
      go_loopw [39] (fun i wr5 => ∃ m : Nat, m ≤ 32 ∧ i = .int .i64 m ∧ RfW w T g1 _ j (rfL L d t j) (shX L j :: gTo L d t j m) wr5) (fun i _ => 32 - (intOf i).toNat)
      case atStart => exact ⟨0, by omega, rfl, HRV.out⟩
      case round =>
        rename World => wr5
        obtain ⟨m, hm, rfl, hrf⟩ := hrel
        have HC := Lib.hid hrf
        clear hrf
        by_cases hm32 : m < 32
        · have hix := fun W => run_index_key Y m HYL.out hm32 W
          have hyg := HYG.out m hm32
          rw [hyg] at hix
          have hyl : sy zs32 d t x m < 256 := sy_lt zs32_lt HD.out t x m
          have hsy := shY_lt HL.out j m
          have HST := Lib.hid (gTo_set L d t j m)
          have d4 : wr5.cell? ⟨g1, 1 + m, none⟩ = some (.int .u8 (shY L j m : Nat)) := by
            have h := (HC.out.b1.cell (1 + m)).trans (vb_at _ (1 + m) (by simp [gTo_len]; omega))
            rw [Nat.add_comm 1 m, List.getD_cons_succ, gTo_at _ _ _ _ _ _ hm32, if_neg (by omega)] at h
            rw [Nat.add_comm 1 m]
            exact h
          have f4 : wr5.frozen? ⟨g1, 1 + m, none⟩ = false := HC.out.b1.free (1 + m)
          have hxc : bits BinOp.xor .u8 (shY L j m : Nat) (sy zs32 d t x m : Nat) = ((shY L j m ^^^ sy zs32 d t x m : Nat) : Int) := u8_xor_nat _ _ hsy hyl
          have hres := xor_lt256 hsy hyl
          have HVV : Hid (shY L j m ^^^ sy zs32 d t (shX L j) m = shY L j m ^^^ sy zs32 d t x m) := Lib.hid (by rw [HX.out])
          clear hyg
          generalize sy zs32 d t x m = y at *
          generalize shY L j m ^^^ y = vv at *
          generalize shY L j m = sv at *
          go_wp2_with fail
          go_roundw
          case rel =>
            go_light
            refine ⟨m + 1, by omega, by go_num, ?_⟩
            have h := HC.out.set_ (1 + m) vv
            rw [Nat.add_comm 1 m, List.set_cons_succ, ← HVV.out, HST.out] at h
            rw [Nat.add_comm 1 m, ← HVV.out]
            exact h
          case measure => simp [intOf]; omega
        · have hm2 : m = 32 := by omega
          have hc := HC.out
          rw [hm2] at hc
          have HC2 := Lib.hid (show RfW w T g1 _ j (rfL L d t j) (rfS L d t j) wr5 from hc)
          have hrs := rfS_len L d t j
          have HRS := Lib.hid (share_size (rfS L d t j) hrs)
          have hvs : (vb (rfS L d t j)).size = 33 := by rw [vb_size, hrs]
          have HVS := Lib.hid hvs
          have HLN := Lib.hid (show (byt (rfS L d t j)).length = 1 * 33 by rw [byt_len, hrs])
          have HSU := Lib.hid (rfL_succ L d t j)
          clear hc hm2 hrs hvs HRV HC
          go_wp2_with (first
            | (refine wpList_load_row rfl 48 (.tmp 12) rfl g1 rfl 48 (vb (rfS L d t j)) (0, 0) _ HC2.out.b1 Try.underlying48 rfl HRS.out ?_)
            | (refine wpList_buildOne rfl 44 48 (.tmp 53) rfl (vb (rfS L d t j)) rfl i0 (.agg z33) 33 Try.underlying44 hi0 hz0 hz1 HVS.out (by decide) (by decide) ?_)
            | (at_builtin; refine wpList_app _ rfl (.tmp 52) (.tmp 54) _ rfl w.heap.size 48 i0 (.agg z33) 33 33 Try.underlying44 hi0 hz0 hz1 hz2 rfl (by decide) _ _ _ rfl (own_alloc HC2.out.oo _) _ _ 1 1 (byt (rfS L d t j)) rfl HLN.out (by exact rd_new _ _ _ _) (byt_one _) (by omega) (by omega) (by exact Nat.le_trans HC2.out.bel.size (by simp)) ?_; intro v2 w6 hap; have hob := own_alloc HC2.out.oo (.cells (vb (rfS L d t j)) 48); have hon := hap.only (S := fun g => _ = some g) (fun g h => h); have HT6 := Lib.hid (show TabAt w6 T ftab from (hon.block T (by simp; have := tab_lt HC2.out.bt; omega) (fun h => HAP.out T h rfl)).trans (HC2.out.bt.below ((Below.refl _ _).alloc (Nat.le_refl _) _) (tab_lt HC2.out.bt))); have HAP6 := Lib.hid (show ∀ g, v2.ownBlock = some g → T ≠ g from (fun g hg => by rcases hap.lies with h1 | h1; exact HAP.out g (h1 ▸ hg); rw [h1] at hg; injection hg with hg; simp at hg; have := tab_lt HC2.out.bt; omega)); have HO6 := Lib.hid (show OwnS w6 w.heap.size v2 (j + 1) (rfL L d t (j + 1)) from (by rw [HSU.out]; have h := hap.own; rw [byt_app] at h; exact h)); have HB6 := Lib.hid ((HC2.out.bel.alloc HC2.out.bel.size _).trans (hap.below hob (by exact Nat.le_trans HC2.out.bel.size (by simp)))); clear hap hob hon))
          go_roundw
          case rel =>
            go_light
            exact ⟨j + 1, by omega, by go_num, HO6.out, HT6.out, HB6.out, HAP6.out⟩
          case measure => simp [intOf]; omega
    · have hjn : j = n := by omega
      have ho := HO.out
      rw [hjn] at ho
      have HO2 := Lib.hid ho
      clear ho hjn
      go_wp2_with fail
      go_ret2
      exact ⟨_, rfl, HO2.out, HBW.out⟩
end Go.Proofs.Ytldanlglefgobaa
