/- ShamirSplits: the walk, where the shares are made. -/
import Derived.Test.YtldanlglefgobaaSham5
namespace Go.Proofs.Ytldanlglefgobaa
open Go.RowKit
set_option linter.unusedVariables false
set_option maxRecDepth 100000 in
set_option maxHeartbeats 2000000 in
theorem splits_ok (s d : List Nat) (n t cap : Nat) (A : Option Addr) (w : World) (hs : s.length = 32) (hsl : ∀ c ∈ s, c < 256) (hd : ∀ c ∈ d, c < 256) (hr : Rd w w.heap.size A (byt d)) (hlen : d.length ≤ 300)
    (g1 : 1 ≤ t) (g2 : t ≤ n) (g3 : n ≤ 12) :
    Calls Try.prog 8 #[.agg (vb s), .int .i64 n, .int .i64 t, .slice A d.length cap] w (Yes w) := by
  have hl : decide (300 < d.length) = false := decide_eq_false (by omega)
  have hl2 : decide (300 < (d.length : Int)) = false := decide_eq_false (by omega)
  have k1 : decide (12 < (n : Int)) = false := decide_eq_false (by omega)
  have h1 : decide ((t : Int) < 1) = false := decide_eq_false (by omega)
  have h2 : decide ((n : Int) < (t : Int)) = false := decide_eq_false (by omega)
  have h2n : decide (n < t) = false := decide_eq_false (by omega)
  have h3 : decide (255 < (n : Int)) = false := decide_eq_false (by omega)
  have HSZ := Lib.hid (key_size s hs)
  have HKB := Lib.hid (key_bytes s hs)
  have HR := Lib.hid hr
  have HSL := Lib.hid hsl
  have HD := Lib.hid hd
  have HG := Lib.hid (And.intro g1 (And.intro g2 (And.intro g3 hlen)))
  have HSP := Lib.hid (fun W (hr : Rd W W.heap.size A (byt d)) => split_c s d n t cap A W hs hsl hd g1 g2 (by omega) hr (by omega))
  have HRS := Lib.hid (fun W x (hx : x < 256) (hr : Rd W W.heap.size A (byt d)) => rshare_c s d x t cap A W hs hsl hd hx (by omega) hr (by omega))
  clear hr hsl hd g1 g2 g3 hlen
  go_enter Try.func8, Try.ntmps8
  go_wp2_with (first
    | (refine wpList_load_row rfl 43 (.tmp 4) rfl w.heap.size rfl 43 (vb s) (0, 0) _ (heap_alloc_new w _) Try.underlying43 rfl HSZ.out ?_)
    | (go_at_call 24; ((with_reducible refine (HSP.out _ (by exact ((HR.out.below ((Below.refl _ _).alloc (Nat.le_refl _) _)).more (by simp)))).mono ?_); rintro e w2 ⟨v, rfl, ho, hb2⟩; obtain ⟨g, c2, rfl, hg, hc1, hc2⟩ := ho.open_ (by have := HG.out; omega); have HO := Lib.hid ho; have HB2 := Lib.hid hb2; have HBS := Lib.hid ((Blk.new w 43 (vb s)).below hb2 (by simp)); clear ho hb2)))
  have hw2 : Below w.heap.size w w2 := ((Below.refl _ _).alloc (Nat.le_refl _) _).trans (HB2.out.mono (by simp))
  have HW2 := Lib.hid hw2
  clear hw2
  unfold maxLen at hc2
  go_loopw [11] (fun i wr => ∃ k : Nat, k ≤ n ∧ i = .int .i64 k ∧ Below w2.heap.size w2 wr) (fun i _ => n - (intOf i).toNat)
  case atStart => exact ⟨0, by omega, rfl, Below.refl _ _⟩
  case round =>
    rename World => wr
    obtain ⟨k, hk, rfl, hb⟩ := hrel
    have HB := Lib.hid hb
    clear hb
    by_cases hlt : k < n
    · have hwr : Below w.heap.size w wr := HW2.out.trans (HB.out.mono HW2.out.size)
      have HWR := Lib.hid hwr
      have hgl : g < w2.heap.size := own_lt HO.out g rfl
      have hr1 : wr.rangeAt g (k * 33) (byt (shr s d t (k + 1))) := fun j u hu => (HB.out.cell hgl).trans (HO.out.share hlt j u hu)
      have hr2 : wr.rangeAt w.heap.size 0 (byt s) := fun j u hu => (HB.out.cell (by show w.heap.size < w2.heap.size; exact HBS.out.lt)).trans (rangeAt_blk HBS.out j u hu)
      have R1 := Lib.hid (ext_range hr1)
      have R2 := Lib.hid (ext_range hr2)
      obtain ⟨K1, hK1⟩ : ∃ K1, K1 = k + 1 := ⟨_, rfl⟩
      obtain ⟨P, hP⟩ : ∃ P, P = k * 33 := ⟨_, rfl⟩
      rw [← hK1, ← hP] at R1
      have hSB := share_bytes (shr s d t K1) (shr_len s d t K1)
      have HSB := Lib.hid hSB
      have hK1b : K1 ≤ 12 := by have := HG.out; omega
      have e1 : (k : Int) + 1 = (K1 : Int) := by omega
      have e2 : IntKind.i64.wrap ((k : Int) + 1) = (K1 : Int) := by rw [IntKind.wrap_i64]; omega
      have e3 : IntKind.u8.wrap (K1 : Int) = (K1 : Int) := by rw [IntKind.wrap_u8]; omega
      have hP2 : (k : Int) * 33 = (P : Int) := by omega
      have hP3 : k * 33 = P := hP.symm
      have l3 : ∀ W, (Op.equalIn 10000 48 (.agg (vb (shr s d t K1))) (.agg (vb (shr s d t K1)))).run Try.prog W = .ok true W := fun W => by
        have h := run_equalIn_share (shr s d t K1) (shr s d t K1) (shr_len _ _ _ _) (shr_len _ _ _ _) (shr_lt (by omega) HSL.out HD.out) (shr_lt (by omega) HSL.out HD.out) W
        rw [beq_self_eq_true] at h
        exact h
      have HRD : Hid (∀ x : Ext wr, Rd x.wd x.wd.heap.size A (byt d)) := Lib.hid (fun x => (HR.out.below (hwr.trans (x.bel.mono hwr.size))).more (Nat.le_trans hwr.size x.bel.size))
      have HK1 := Lib.hid hK1
      have HB4 := Lib.hid (show K1 < 256 by omega)
      clear hr1 hr2 hwr hSB hK1 hP
      go_wp2_with fail
      refine wp_region_class (Ext.wd (w0 := wr)) (by kernel_rfl) (by kernel_rfl) (Ext.of (Below.refl _ _).drew) ?_
      repeat (first
        | (refine wpQuiet_load_mid rfl 48 (.tmp 68) rfl g P rfl (shr s d t K1) _ R1.out Try.underlying48 rfl HSB.out _ (by simp only [Act.put, List.setIfInBounds_toArray, List.set_cons_succ, List.set_cons_zero]; rfl) ?_)
        | (refine wpQuiet_load_mid rfl 43 (.tmp 4) rfl w.heap.size 0 rfl s _ R2.out Try.underlying43 rfl HKB.out _ (by simp only [Act.put, List.setIfInBounds_toArray, List.set_cons_succ, List.set_cons_zero]; rfl) ?_)
        | go_big_quiet_step ((go_at_call 25; with_reducible exact ext_call (HRS.out _ K1 HB4.out (HRD.out _)))))
      refine wpQuiet_nil ?_
      rintro _ ⟨x, rfl⟩
      have HX := Lib.hid (HB.out.trans (x.bel.mono HB.out.size))
      go_wp2_with fail
      go_roundw
      case rel =>
        go_light
        exact ⟨K1, by have := HK1.out; omega, rfl, HX.out⟩
      case measure => have := HK1.out; simp [intOf]; omega
    · have hkn : k = n := by omega
      have HX := Lib.hid (HW2.out.trans (HB.out.mono HW2.out.size))
      clear hkn
      go_wp2_with (go_at_call 23; ((with_reducible refine (awake08_c _).mono ?_); rintro e w3 ⟨rfl, hb3⟩))
      go_ret
      exact ⟨rfl, HX.out.trans (hb3.mono HX.out.size)⟩
theorem shamirSplits_w (s d : List Nat) (n t : Int) (cap : Nat) (A : Option Addr) (w : World) (hs : s.length = 32) (hsl : ∀ c ∈ s, c < 256) (hd : ∀ c ∈ d, c < 256) (hr : Rd w w.heap.size A (byt d)) :
    Calls Try.prog 8 #[.agg (vb s), .int .i64 n, .int .i64 t, .slice A d.length cap] w (Yes w) := by
  by_cases h : (12 < n ∧ n < 256) ∨ 300 < d.length
  · exact splits_long s d n t cap A w h
  · by_cases hb : t < 1 ∨ n < t ∨ 255 < n
    · exact splits_bad s d n t cap A w hs h hb
    · obtain ⟨N, rfl⟩ := Int.eq_ofNat_of_zero_le (by omega : 0 ≤ n)
      obtain ⟨T, rfl⟩ := Int.eq_ofNat_of_zero_le (by omega : 0 ≤ t)
      exact splits_ok s d N T cap A w hs hsl hd hr (by omega) (by omega) (by omega) (by omega)
end Go.Proofs.Ytldanlglefgobaa
