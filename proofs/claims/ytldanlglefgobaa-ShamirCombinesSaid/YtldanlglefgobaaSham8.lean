/- ShamirHides: the walk. -/
import Derived.Test.YtldanlglefgobaaSham7
import Derived.Test.YtldanlglefgobaaFld6
import Derived.Deep.RegionHeld3
namespace Go.Proofs.Ytldanlglefgobaa
open Go.RowKit
set_option linter.unusedVariables false
theorem zero_arr (w : World) : (zeroValue 42).run Try.prog w = .ok (.agg z32) w := by kernel_rfl
theorem Below.ofDrew_ {B : Nat} {w w' : World} (h : Below B w.drew w') : Below B w w' := ⟨h.os, h.tape, h.output, h.size, h.block⟩
/-- the three keys in memory -/
structure Hid3 (w : World) (a b d : List Nat) (wi : World) : Prop where
  ba : Blk wi w.heap.size 43 (vb a)
  bb : Blk wi (w.heap.size + 1) 43 (vb b)
  bd : Blk wi (w.heap.size + 1 + 1) 43 (vb d)
  bel : Below w.heap.size w wi
theorem Hid3.next {w wi w' : World} {a b d : List Nat} (h : Hid3 w a b d wi) (hb : Below wi.heap.size wi w') : Hid3 w a b d w' :=
  ⟨h.ba.below hb h.ba.lt, h.bb.below hb h.bb.lt, h.bd.below hb h.bd.lt, h.bel.trans (hb.mono h.bel.size)⟩
theorem Hid3.drewN {w wi : World} {a b d : List Nat} (h : Hid3 w a b d wi) (n : Nat) : Hid3 w a b d (wi.drewN n) := ⟨h.ba, h.bb, h.bd, belowDrewN n h.bel⟩
set_option maxRecDepth 100000 in
set_option maxHeartbeats 2000000 in
theorem hides_core (a b d : List Nat) (x n : Nat) (w : World) (ha : a.length = 32) (hb : b.length = 32) (hd : d.length = 32) (has : ∀ c ∈ a, c < 256) (hbs : ∀ c ∈ b, c < 256) (hds : ∀ c ∈ d, c < 256) (hx : x < 256)
    (hn : n = x % 8 + 1) :
    Calls Try.prog 9 #[.agg (vb a), .agg (vb b), .agg (vb d), .int .u8 x] w (Yes w) := by
  obtain ⟨N, hN⟩ : ∃ N, N = max n 2 := ⟨_, rfl⟩
  have hn8 : 1 ≤ n ∧ n ≤ 8 := by omega
  have hN8 : n ≤ N ∧ 2 ≤ N ∧ N ≤ 8 := by omega
  have HSPa := Lib.hid (fun W (d : List Nat) (hd : d.length = 32) (hds : ∀ c ∈ d, c < 256) (A : Option Addr) (hr : Rd W W.heap.size A (byt d)) => (show Calls Try.prog 24 #[.agg (vb a), .int .i64 N, .int .i64 2, .slice A 32 32] W (GivesS N (shf a d 2 N) 0 W) by
    have h := split_c a d N 2 32 A W ha has hds (by omega) (by omega) (by omega) hr (by omega)
    rw [hd] at h
    exact h))
  have HSPb := Lib.hid (fun W (d : List Nat) (hd : d.length = 32) (hds : ∀ c ∈ d, c < 256) (A : Option Addr) (hr : Rd W W.heap.size A (byt d)) => (show Calls Try.prog 24 #[.agg (vb b), .int .i64 N, .int .i64 2, .slice A 32 32] W (GivesS N (shf b d 2 N) 0 W) by
    have h := split_c b d N 2 32 A W hb hbs hds (by omega) (by omega) (by omega) hr (by omega)
    rw [hd] at h
    exact h))
  have HHE := Lib.hid (hides_eq a b d n (by omega) (by omega) has hbs hds hd)
  have HA := Lib.hid (And.intro ha has)
  have HBs := Lib.hid (And.intro hb hbs)
  have HDs := Lib.hid (And.intro hd hds)
  have HNN := Lib.hid (And.intro hn8 (And.intro hN8 hN))
  have e1 : (x : Int) % 8 + 1 = (n : Int) := by omega
  have e2 : (if (n : Int) < 2 then (2 : Int) else (n : Int)) = (N : Int) := by split <;> omega
  have zs := zero_arr
  clear ha hb hd has hbs hds hn hn8 hN8 hN
  go_enter Try.func9, Try.ntmps9
  go_upto_region 3 with fail
  obtain ⟨W, hW⟩ : ∃ W, W = ((w.alloc (.cells (vb a) 43)).alloc (.cells (vb b) 43)).alloc (.cells (vb d) 43) := ⟨_, rfl⟩
  have h3 : Hid3 w a b d W := by rw [hW]; exact ⟨blk1 _ _ _, blk2 _ _ _, blk3 _ _ _, bel3 _ _ _⟩
  rw [← hW]
  have H3 := Lib.hid h3
  clear h3 hW
  have HKA := Lib.hid (key_bytes a HA.out.1)
  have HKB := Lib.hid (key_bytes b HBs.out.1)
  go_cut [11, 12] from 24 to 31 (fun s11 s12 wx => ∃ g c, s11 = .slice (some ⟨g, 0, none⟩) N c ∧ s12 = .int .i64 0 ∧ N ≤ c ∧ c ≤ maxLen ∧ OwnS wx W.heap.size s11 N (shf a d 2 N) ∧ Below W.heap.size W wx)
  case first =>
    have hu := Try.underlying43
    have hki := HKA.out
    have hkl : (byt a).length = 32 := by rw [byt_len]; exact HA.out.1
    have hko := byt_one a
    have RS := rangeAt_blk H3.out.ba
    have hrd : Rd W.drew W.drew.heap.size (some ⟨w.heap.size + 1 + 1, 0, none⟩) (byt d) := rd_blk (w := W.drew) H3.out.bd (by exact H3.out.bd.lt)
    have HRD := Lib.hid hrd
    clear hrd
    go_region_held3 (fun w' => w'.rangeAt w.heap.size 0 (byt a)) (first | exact RS | exact RS2)
      (first | (go_at_call 24; refine (HSPa.out _ d HDs.out.1 HDs.out.2 _ HRD.out).mono ?_; rintro e w2 ⟨v, rfl, ho, hb2⟩; obtain ⟨g, c2, rfl, hg, hc1, hc2⟩ := ho.open_ (by have := HNN.out; omega); have HO := Lib.hid ho; have HB2 := Lib.hid hb2; have RS2 : w2.rangeAt w.heap.size 0 (byt a) := (fun j u hu => (hb2.cell (by exact H3.out.ba.lt)).trans (RS j u hu)); clear ho hb2))
    all_goals (go_wp2_with fail)
    all_goals go_meet
    all_goals exact ⟨g, c2, rfl, rfl, hc1, hc2, HO.out, Below.ofDrew_ HB2.out⟩
  case rest =>
  rename World => W1
  obtain ⟨g1, c1, rfl, rfl, hc1, hc2, ho1, hb1⟩ := hcut
  have H31 := Lib.hid (H3.out.next hb1)
  have HO1 := Lib.hid ho1
  have HCC := Lib.hid (And.intro hc1 hc2)
  clear ho1 hb1 H3 hc1 hc2
  go_wp2_with (go_at_call 22; ((with_reducible refine (rinv_c n _ (by have := HNN.out; omega)).mono ?_); rintro e w' ⟨rfl, rfl⟩))
  obtain ⟨v, hv⟩ : ∃ v, v = rinv n := ⟨_, rfl⟩
  rw [← hv] at HHE
  try rw [← hv]
  have hv256 : v < 256 := by rw [hv, rinv_is n (by have := HNN.out; omega) (by have := HNN.out; omega)]; exact tinv_lt ftab_small n
  clear hv
  have hblk : Blk (W1.alloc (.cells z32 42)) W1.heap.size 42 (vb (fTo (oth a b d v) 0)) := by rw [fTo_zero]; exact Blk.new _ _ _
  have HBLK := Lib.hid hblk
  clear hblk
  go_loopw [15] (fun i wr => ∃ k : Nat, k ≤ 32 ∧ i = .int .i64 k ∧ Blk wr W1.heap.size 42 (vb (fTo (oth a b d v) k)) ∧ Below W1.heap.size W1 wr) (fun i _ => 32 - (intOf i).toNat)
  case atStart => exact ⟨0, by omega, rfl, HBLK.out, (Below.refl _ _).alloc (Nat.le_refl _) _⟩
  case round =>
    rename World => wr
    obtain ⟨k, hk, rfl, hblk, hb⟩ := hrel
    have HB := Lib.hid hb
    have HK := Lib.hid hblk
    have HA0 := Lib.hid ((H31.out.ba.below hb H31.out.ba.lt))
    clear hb hblk HBLK
    by_cases hlt : k < 32
    · have d1 : wr.cell? ⟨w.heap.size, k, none⟩ = some (.int .u8 (a.getD k 0 : Nat)) := ((H31.out.ba.below HB.out H31.out.ba.lt).cell k).trans (vb_at a k (by rw [HA.out.1]; exact hlt))
      have d2 : wr.cell? ⟨w.heap.size + 1, k, none⟩ = some (.int .u8 (b.getD k 0 : Nat)) := ((H31.out.bb.below HB.out H31.out.bb.lt).cell k).trans (vb_at b k (by rw [HBs.out.1]; exact hlt))
      have d3 : wr.cell? ⟨w.heap.size + 1 + 1, k, none⟩ = some (.int .u8 (d.getD k 0 : Nat)) := ((H31.out.bd.below HB.out H31.out.bd.lt).cell k).trans (vb_at d k (by rw [HDs.out.1]; exact hlt))
      have d4 : wr.cell? ⟨W1.heap.size, k, none⟩ = some (.int .u8 ((fTo (oth a b d v) k).getD k 0 : Nat)) := (HK.out.cell k).trans (vb_at _ k (by rw [fTo_len]; exact hlt))
      have f4 : wr.frozen? ⟨W1.heap.size, k, none⟩ = false := HK.out.free k
      have hak := getD_lt HA.out.2 k
      have hbk := getD_lt HBs.out.2 k
      have hdk := getD_lt HDs.out.2 k
      have HOT := Lib.hid (show oth a b d v k = gm (a.getD k 0 ^^^ b.getD k 0) v ^^^ d.getD k 0 from rfl)
      have HST := Lib.hid (fTo_set (oth a b d v) k)
      have hz1 : bits BinOp.xor .u8 (a.getD k 0 : Nat) (b.getD k 0 : Nat) = ((a.getD k 0 ^^^ b.getD k 0 : Nat) : Int) := u8_xor_nat _ _ hak hbk
      have hz2 : bits BinOp.xor .u8 (gm (a.getD k 0 ^^^ b.getD k 0) v : Nat) (d.getD k 0 : Nat) = ((gm (a.getD k 0 ^^^ b.getD k 0) v ^^^ d.getD k 0 : Nat) : Int) := u8_xor_nat _ _ (gm_lt _ _) hdk
      have hx1 := xor_lt256 hak hbk
      have hy1 := xor_lt256 (gm_lt (a.getD k 0 ^^^ b.getD k 0) v) hdk
      generalize a.getD k 0 = ak at *
      generalize b.getD k 0 = bk at *
      generalize d.getD k 0 = dk at *
      generalize ak ^^^ bk = xk at *
      generalize gm xk v ^^^ dk = ok at *
      go_wp2_with fail
      refine wp_region_still_tail 15 (by kernel_rfl) (by kernel_rfl) ?_
      simp only [List.take_succ_cons, List.take_zero, List.drop_succ_cons, List.drop_zero]
      iterate 9 still_step
      still_call ((rmul_c xk v _ hx1 hv256).mono fun _ _ h => ⟨h.1, h.2.symm⟩)
      repeat still_step
      try refine wpStill_nil ?_
      change wpList _ _ _ _ _ wr.drew
      go_wp2_with fail
      go_roundw
      case rel =>
        go_light
        refine ⟨k + 1, by omega, by go_num, ?_, ((HB.out.setCell (by exact Nat.le_refl _) _).drew : Below W1.heap.size W1 (wr.setCell ⟨W1.heap.size, k, none⟩ (.int .u8 (ok : Int))).drew)⟩
        have h := HK.out.set_ k (.int .u8 (ok : Int))
        rw [vb_set, ← HOT.out, HST.out] at h
        rw [← HOT.out]
        exact h
      case measure => simp [intOf]; omega
    · have hk32 : k = 32 := by omega
      have h32 := HK.out
      rw [hk32] at h32
      have HT := Lib.hid h32
      have H32 := Lib.hid (H31.out.next HB.out)
      have hmb : Below W1.heap.size W1 wr := HB.out
      have HMB := Lib.hid hmb
      clear h32 hmb HB HK HA0 hlt hk
      subst hk32
      rw [show ((32 : Nat) : Int) = 32 from rfl]
      go_wp2_with fail
      have hol := fTo_len (oth a b d v) 32
      have hos := fTo_lt (fun i => oth_lt (a := a) (b := b) HDs.out.2 v i) 32
      generalize fTo (oth a b d v) 32 = O at *
      have HOS := Lib.hid (And.intro hol hos)
      clear hol hos
      go_cut [16, 17] from 53 to 60 (fun s11 s12 wx => ∃ g c, s11 = .slice (some ⟨g, 0, none⟩) N c ∧ s12 = .int .i64 0 ∧ N ≤ c ∧ c ≤ maxLen ∧ OwnS wx wr.heap.size s11 N (shf b O 2 N) ∧ Below wr.heap.size wr wx)
      case first =>
        have hu := Try.underlying43
        have hki := HKB.out
        have hkl : (byt b).length = 32 := by rw [byt_len]; exact HBs.out.1
        have hko := byt_one b
        have RS := rangeAt_blk H32.out.bb
        have hrd : Rd wr.drew wr.drew.heap.size (some ⟨W1.heap.size, 0, none⟩) (byt O) := rd_blk (w := wr.drew) HT.out (by exact HT.out.lt)
        have HRD := Lib.hid hrd
        clear hrd
        go_region_held3 (fun w' => w'.rangeAt (w.heap.size + 1) 0 (byt b)) (first | exact RS | exact RS2)
          (first | (go_at_call 24; refine (HSPb.out _ O HOS.out.1 HOS.out.2 _ HRD.out).mono ?_; rintro e w2 ⟨v2, rfl, ho, hb2⟩; obtain ⟨g, c2, rfl, hg, hc1, hc2⟩ := ho.open_ (by have := HNN.out; omega); have HO := Lib.hid ho; have HB2 := Lib.hid hb2; have RS2 : w2.rangeAt (w.heap.size + 1) 0 (byt b) := (fun j u hu => (hb2.cell (by exact H32.out.bb.lt)).trans (RS j u hu)); clear ho hb2))
        all_goals (go_wp2_with fail)
        all_goals go_meet
        all_goals exact ⟨g, c2, rfl, rfl, hc1, hc2, HO.out, Below.ofDrew_ HB2.out⟩
      case rest =>
      obtain ⟨g2, cc2, rfl, rfl, hd1, hd2, ho2, hb2⟩ := hcut
      have HO2 := Lib.hid ho2
      obtain ⟨n1, hn1⟩ : ∃ n1, n1 = n - 1 := ⟨_, rfl⟩
      obtain ⟨P, hP⟩ : ∃ P, P = n1 * 33 := ⟨_, rfl⟩
      have hn1n : n1 + 1 = n := by have := HNN.out; omega
      have hn1N : n1 < N := by have := HNN.out; omega
      have hb3 : Below W1.heap.size W1 wc := HMB.out.trans (hb2.mono HMB.out.size)
      have hr1 : wc.rangeAt g1 P (byt (shr a d 2 n)) := fun j u hu => by
        have h := HO1.out.share hn1N j u (by rw [hn1n]; exact hu)
        rw [← hP] at h
        exact (hb3.cell (own_lt HO1.out g1 rfl)).trans h
      have hr2 : wc.rangeAt g2 P (byt (shr a d 2 n)) := fun j u hu => by
        have h := HO2.out.share hn1N j u (by rw [hn1n, HHE.out]; exact hu)
        rw [← hP] at h
        exact h
      have R1 := Lib.hid (ext_range hr1)
      have R2 := Lib.hid (ext_range hr2)
      have hbel := H31.out.bel.trans (hb3.mono H31.out.bel.size)
      have HBEL := Lib.hid hbel
      have w1 : IntKind.i64.wrap ((n : Int) - 1) = (n1 : Int) := by have := HNN.out; rw [IntKind.wrap_i64]; omega
      have hn1m : (n1 : Int) < (N : Int) := by omega
      have t1 : decide ((n : Int) ≤ (N : Int)) = true := decide_eq_true (by have := HNN.out; omega)
      have t2 : decide (n ≤ N) = true := decide_eq_true (by have := HNN.out; omega)
      have hP2 : n1 * 33 = P := hP.symm
      have HSB := Lib.hid (share_bytes (shr a d 2 n) (shr_len a d 2 n))
      have l3 : ∀ W, (Op.equalIn 10000 48 (.agg (vb (shr a d 2 n))) (.agg (vb (shr a d 2 n)))).run Try.prog W = .ok true W := fun W => by
        have hlt := shr_lt (t := 2) (x := n) (by have := HNN.out; omega) HA.out.2 HDs.out.2
        have h := run_equalIn_share (shr a d 2 n) (shr a d 2 n) (shr_len _ _ _ _) (shr_len _ _ _ _) hlt hlt W
        rw [beq_self_eq_true] at h
        exact h
      unfold maxLen at hd2
      have hcc := HCC.out
      unfold maxLen at hcc
      have hc1 := hcc.1
      have hc2 := hcc.2
      clear hr1 hr2 hbel hn1n hb3 hb2 ho2 hP hn1 hcc
      go_wp2_with fail
      refine wp_region_class (Ext.wd (w0 := wc)) (by kernel_rfl) (by kernel_rfl) (Ext.of (Below.refl _ _).drew) ?_
      repeat (first
        | (refine wpQuiet_load_mid rfl 48 (.tmp 83) rfl g1 P rfl (shr a d 2 n) _ R1.out Try.underlying48 rfl HSB.out _ (by simp only [Act.put, List.setIfInBounds_toArray, List.set_cons_succ, List.set_cons_zero]; rfl) ?_)
        | (refine wpQuiet_load_mid rfl 48 (.tmp 88) rfl g2 P rfl (shr a d 2 n) _ R2.out Try.underlying48 rfl HSB.out _ (by simp only [Act.put, List.setIfInBounds_toArray, List.set_cons_succ, List.set_cons_zero]; rfl) ?_)
        | go_big_quiet_step ((go_at_call 23; exact ext_call (awake08_c _))))
      refine wpQuiet_nil ?_
      rintro _ ⟨y, rfl⟩
      go_wp2
      go_ret
      exact ⟨rfl, HBEL.out.trans (y.bel.mono HBEL.out.size)⟩
end Go.Proofs.Ytldanlglefgobaa
