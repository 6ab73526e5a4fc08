/- AeadOpens: the walk. -/
import Derived.Test.YtfblpkjablgafaaDoorCe3
import Derived.Test.YtfblpkjablgafaaDoorAw06
namespace Go.Proofs.YtfblpkjablgafaaDoor
open Go.RowKit
set_option linter.unusedVariables false
set_option linter.unusedSimpArgs false
theorem open_seal (k nonce beside sealed : List Nat) (h : openErr k nonce beside sealed = 0) : sealL k nonce beside (openL k nonce beside sealed) = sealed := by
  unfold openL
  rw [if_pos h]
  unfold openErr at h
  by_cases h1 : sealed.length < 16
  · rw [if_pos h1] at h; omega
  · rw [if_neg h1] at h
    by_cases h2 : 4112 < sealed.length
    · rw [if_pos h2] at h; omega
    · rw [if_neg h2] at h
      by_cases h3 : (tagL k nonce beside (sealed.take (sealed.length - 16)) == sealed.drop (sealed.length - 16)) = true
      · have h4 := eq_of_beq h3
        unfold sealL
        rw [xorL_twice, h4, List.take_append_drop]
      · rw [if_neg h3] at h; omega
theorem openErr_le (k nonce beside sealed : List Nat) : openErr k nonce beside sealed ≤ 5 := by
  unfold openErr
  split
  · decide
  · split
    · decide
    · split <;> decide
theorem openL_len (k nonce beside sealed : List Nat) : (openL k nonce beside sealed).length ≤ sealed.length := by
  unfold openL
  split
  · rw [xorL_len, List.length_take]; omega
  · simp
theorem openL_lt (k nonce beside : List Nat) {sealed : List Nat} (h : ∀ c ∈ sealed, c < 256) : ∀ c ∈ openL k nonce beside sealed, c < 256 := fun c hc => by
  unfold openL at hc
  split at hc
  · exact xorL_lt _ _ _ (fun c hc => h c (List.mem_of_mem_take hc)) c hc
  · cases hc
/-- to open, whatever long it is -/
theorem openAny_c (A1 A2 : Option Addr) (c1 c2 : Nat) (k nonce beside sealed : List Nat) (w : World) (hk : k.length = 32) (hkl : ∀ c ∈ k, c < 256) (hc : nonce.length = 12) (hcl : ∀ c ∈ nonce, c < 256)
    (hr1 : Rd w w.heap.size A1 (byt beside)) (hr2 : Rd w w.heap.size A2 (byt sealed)) (hb1 : ∀ c ∈ beside, c < 256) (hb2 : ∀ c ∈ sealed, c < 256) (hl1 : beside.length ≤ 4200) (hl2 : sealed.length ≤ 4112) (hcap : sealed.length ≤ c2) (hq : QuartersAt w) :
    Calls Tryd.prog 10 #[.agg (vb k), .agg (vb nonce), .slice A1 beside.length c1, .slice A2 sealed.length c2] w fun e w' => ∃ v, e = .returned (.tuple #[v, .int .i64 (openErr k nonce beside sealed : Nat)]) ∧ OwnB w' w.heap.size v (openL k nonce beside sealed) ∧ Below w.heap.size w w' := by
  by_cases h16 : 16 ≤ sealed.length
  · exact open_c A1 A2 c1 c2 k nonce beside sealed w hk hkl hc hcl hr1 hr2 hb1 hb2 hl1 h16 hl2 hcap hq
  · have he : openErr k nonce beside sealed = 2 := by unfold openErr; rw [if_pos (by omega)]
    refine (openShort_c A1 A2 c1 c2 beside.length sealed.length k nonce w (by omega)).mono ?_
    rintro e w' ⟨rfl, hb⟩
    exact ⟨_, by rw [he]; rfl, by unfold openL; rw [he, if_neg (by decide)]; exact OwnB.nil_ _ _, hb⟩
theorem ropenAny_c (A1 A2 : Option Addr) (c1 c2 : Nat) (k nonce beside sealed : List Nat) (w : World) (hk : k.length = 32) (hkl : ∀ c ∈ k, c < 256) (hc : nonce.length = 12) (hcl : ∀ c ∈ nonce, c < 256)
    (hr1 : Rd w w.heap.size A1 (byt beside)) (hr2 : Rd w w.heap.size A2 (byt sealed)) (hb1 : ∀ c ∈ beside, c < 256) (hb2 : ∀ c ∈ sealed, c < 256) (hl1 : beside.length ≤ 4200) (hl2 : sealed.length ≤ 4112) (hcap : sealed.length ≤ c2) :
    Calls Tryd.prog 14 #[.agg (vb k), .agg (vb nonce), .slice A1 beside.length c1, .slice A2 sealed.length c2] w fun e w' => ∃ v, e = .returned (.tuple #[v, .int .i64 (openErr k nonce beside sealed : Nat)]) ∧ OwnB w' w.heap.size v (openL k nonce beside sealed) ∧ Below w.heap.size w w' := by
  by_cases h16 : 16 ≤ sealed.length
  · exact ropen_c A1 A2 c1 c2 k nonce beside sealed w hk hkl hc hcl hr1 hr2 hb1 hb2 hl1 h16 hl2 hcap
  · have he : openErr k nonce beside sealed = 2 := by unfold openErr; rw [if_pos (by omega)]
    refine (ropenShort_c A1 A2 c1 c2 beside.length sealed.length k nonce w (by omega)).mono ?_
    rintro e w' ⟨rfl, hb⟩
    exact ⟨_, by rw [he]; rfl, by unfold openL; rw [he, if_neg (by decide)]; exact OwnB.nil_ _ _, hb⟩
theorem same_true (base1 base2 : Nat) (u v : Value) (l : List Nat) (W : World) (hl : ∀ c ∈ l, c < 256) (hn : l.length ≤ 100000) (h1 : OwnB W base1 u l) (h2 : OwnB W base2 v l) :
    Calls Tryd.prog 11 #[u, v] W fun e w' => e = .returned (.bool true) ∧ ∃ n, w' = W.drewN n := by
  obtain ⟨A1, c1, rfl, _, _, r1⟩ := h1.rd
  obtain ⟨A2, c2, rfl, _, _, r2⟩ := h2.rd
  have h := same_c W.heap.size W.heap.size A1 A2 c1 c2 l l W hl hl r1 r2 (by omega) (by omega)
  rw [beq_self_eq_true] at h
  exact h
set_option maxRecDepth 100000 in
set_option maxHeartbeats 8000000 in
theorem aeadOpens_w (A1 A2 : Option Addr) (c1 c2 : Nat) (k nonce beside sealed : List Nat) (w : World) (hk : k.length = 32) (hkl : ∀ c ∈ k, c < 256) (hc : nonce.length = 12) (hcl : ∀ c ∈ nonce, c < 256)
    (hr1 : Rd w w.heap.size A1 (byt beside)) (hr2 : Rd w w.heap.size A2 (byt sealed)) (hb1 : ∀ c ∈ beside, c < 256) (hb2 : ∀ c ∈ sealed, c < 256) (hcap : sealed.length ≤ c2) (hq : QuartersAt w) :
    Calls Tryd.prog 4 #[.agg (vb k), .agg (vb nonce), .slice A1 beside.length c1, .slice A2 sealed.length c2] w fun e w' => e = .returned (.bool true) ∧ Below w.heap.size w w' := by
  have hbx := Kbx.begin w k nonce
  have HAW := Lib.hid (fun W (h : Below w.heap.size w W) => awake06_c W (hq.next h))
  by_cases h1 : sealed.length ≤ 200 ∧ beside.length ≤ 100
  · obtain ⟨h1, h2⟩ := h1
    have p1 : ¬ (200 : Int) < (sealed.length : Int) := by omega
    have p2 : ¬ (100 : Int) < (beside.length : Int) := by omega
    have HIK := Lib.hid (keySz hk)
    have HIN := Lib.hid (nonSz hc)
    have HOC := Lib.hid (fun W (h : Below w.heap.size w W) => openAny_c A1 A2 c1 c2 k nonce beside sealed W hk hkl hc hcl ((hr1.below h).more h.size) ((hr2.below h).more h.size) hb1 hb2 (by omega) (by omega) hcap (hq.next h))
    have HRC := Lib.hid (fun W (h : Below w.heap.size w W) => ropenAny_c A1 A2 c1 c2 k nonce beside sealed W hk hkl hc hcl ((hr1.below h).more h.size) ((hr2.below h).more h.size) hb1 hb2 (by omega) (by omega) hcap)
    have HOL := Lib.hid (openL_lt k nonce beside hb2)
    have HON := Lib.hid (show (openL k nonce beside sealed).length ≤ 200 from Nat.le_trans (openL_len _ _ _ _) h1)
    have HSC := Lib.hid (fun W A c (h : Below w.heap.size w W) (hr : Rd W W.heap.size A (byt (openL k nonce beside sealed))) => seal_c A1 A c1 c k nonce beside (openL k nonce beside sealed) W hk hkl hc hcl ((hr1.below h).more h.size) hr hb1 HOL.out (by omega) (by have := HON.out; omega) (hq.next h))
    have HSE := Lib.hid (open_seal k nonce beside sealed)
    have HR2 := Lib.hid hr2
    have HB2 := Lib.hid hb2
    have hel := openErr_le k nonce beside sealed
    clear hkl hcl hr1 hr2 hb1 hb2 hq
    generalize openL k nonce beside sealed = ol at *
    generalize openErr k nonce beside sealed = oe at *
    generalize sealL k nonce beside ol = sl at *
    have t0 : ((oe : Int) != (oe : Int)) = false := by simp
    go_enter Tryd.func4, Tryd.ntmps4
    go_upto_region 1 with (first
      | (refine Go.Great.wpList_boxTo rfl 23 (.tmp 0) rfl (some 4) rfl w.heap.size rfl (vb k) rfl ?_)
      | (refine Go.Great.wpList_boxTo rfl 25 (.tmp 1) rfl (some 5) rfl (w.heap.size + 1) (by simp) (vb nonce) rfl ?_))
    generalize (w.alloc (Obj.cells (vb k) 23)).alloc (Obj.cells (vb nonce) 25) = Z at *
    have HB := Lib.hid hbx
    clear hbx
    go_upto_region 4 with (first
      | (refine wpList_load_row rfl 23 (.tmp 4) rfl w.heap.size rfl 23 (vb k) (0, 0) _ HB.out.kA Tryd.underlying23 rfl HIK.out ?_)
      | (refine wpList_load_row rfl 25 (.tmp 5) rfl (w.heap.size + 1) rfl 25 (vb nonce) (0, 0) _ HB.out.nA Tryd.underlying25 rfl HIN.out ?_)
      | (go_at_call 10; (refine (HOC.out Z HB.out.bel).mono ?_); rintro e W1 ⟨v1, rfl, ho, hb⟩; have HO1 := Lib.hid (show OwnB W1 w.heap.size v1 ol from own_base_le ho HB.out.bel.size); have HB1 := Lib.hid (HB.out.next (hb.mono HB.out.sz)); clear ho hb))
    go_upto_region 5 with (first
      | (refine wpList_load_row rfl 23 (.tmp 4) rfl w.heap.size rfl 23 (vb k) (0, 0) _ HB1.out.kA Tryd.underlying23 rfl HIK.out ?_)
      | (refine wpList_load_row rfl 25 (.tmp 5) rfl (w.heap.size + 1) rfl 25 (vb nonce) (0, 0) _ HB1.out.nA Tryd.underlying25 rfl HIN.out ?_)
      | (go_at_call 14; (refine (HRC.out W1 HB1.out.bel).mono ?_); rintro e W2 ⟨v2, rfl, ho, hb⟩; have HO2 := Lib.hid (show OwnB W2 w.heap.size v2 ol from own_base_le ho HB1.out.bel.size); have HO12 := Lib.hid (HO1.out.next hb); have HB2' := Lib.hid (HB1.out.next (hb.mono HB1.out.sz)); clear ho hb))
    clear HB HB1 HO1 HOC HRC
    go_upto_region 7 with (go_at_call 11; (refine (same_true w.heap.size w.heap.size v1 v2 ol W2 HOL.out (by have := HON.out; omega) HO12.out HO2.out).mono ?_); rintro e W3 ⟨rfl, q, rfl⟩)
    have HB3 := Lib.hid (HB2'.out.next (belowDrewN q (Below.refl _ _)))
    have HO3 := Lib.hid (HO12.out.drewN q)
    generalize W2.drewN q = W3 at *
    clear HB2' HO12 HO2
    by_cases h0 : oe = 0
    · have HSL := Lib.hid (HSE.out h0)
      subst h0
      obtain ⟨A5, k5, rfl, _, _, r5⟩ := HO3.out.rd
      have HR5 := Lib.hid r5
      clear r5 t0
      have t0 : ((0 : Int) != 0) = false := by simp
      go_upto_region 10 with (first
        | (refine wpList_load_row rfl 23 (.tmp 4) rfl w.heap.size rfl 23 (vb k) (0, 0) _ HB3.out.kA Tryd.underlying23 rfl HIK.out ?_)
        | (refine wpList_load_row rfl 25 (.tmp 5) rfl (w.heap.size + 1) rfl 25 (vb nonce) (0, 0) _ HB3.out.nA Tryd.underlying25 rfl HIN.out ?_)
        | (go_at_call 9; (refine (HSC.out W3 A5 k5 HB3.out.bel HR5.out).mono ?_); rintro e W4 ⟨v4, rfl, ho, hb⟩; have HO4 := Lib.hid (show OwnB W4 W3.heap.size v4 sealed by rw [← HSL.out]; exact ho); have HB4 := Lib.hid (HB3.out.next (hb.mono HB3.out.sz)); clear ho hb))
      obtain ⟨A6, k6, rfl, _, _, r6⟩ := HO4.out.rd
      have HSM := Lib.hid (show Calls Tryd.prog 11 #[.slice A6 sealed.length k6, .slice A2 sealed.length c2] W4 fun e w' => e = .returned (.bool true) ∧ ∃ n, w' = W4.drewN n from by
        have h := same_c W4.heap.size w.heap.size A6 A2 k6 c2 sealed sealed W4 HB2.out HB2.out r6 (HR2.out.below HB4.out.bel) (by omega) (by omega)
        rw [beq_self_eq_true] at h
        exact h)
      clear r6
      go_wp2_with (first
        | (go_at_call 11; (refine HSM.out.mono ?_); rintro e W5 ⟨rfl, q2, rfl⟩; have HB5 := Lib.hid (HB4.out.next (belowDrewN q2 (Below.refl _ _))); generalize W4.drewN q2 = W5 at *)
        | (go_at_call 7; (refine (HAW.out W5 HB5.out.bel).mono ?_); rintro e W6 ⟨rfl, hb⟩; have HB6 := Lib.hid (HB5.out.bel.trans (hb.mono HB5.out.bel.size)); clear hb))
      go_ret
      exact ⟨rfl, HB6.out⟩
    · have t1 : ((oe : Int) != 0) = true := by rw [bne_iff_ne]; omega
      go_wp2_with (go_at_call 7; (refine (HAW.out W3 HB3.out.bel).mono ?_); rintro e W6 ⟨rfl, hb⟩; have HB6 := Lib.hid (HB3.out.bel.trans (hb.mono HB3.out.bel.size)); clear hb)
      go_ret
      exact ⟨rfl, HB6.out⟩
  · clear hr1 hr2 hb1 hb2 hkl hcl hk hc hq
    have HB := Lib.hid hbx.bel
    clear hbx
    by_cases h2 : sealed.length ≤ 200
    · have p1 : ¬ (200 : Int) < (sealed.length : Int) := by omega
      have p2 : (100 : Int) < (beside.length : Int) := by omega
      clear h1 h2
      go_enter Tryd.func4, Tryd.ntmps4
      go_upto_region 1 with (first
        | (refine Go.Great.wpList_boxTo rfl 23 (.tmp 0) rfl (some 4) rfl w.heap.size rfl (vb k) rfl ?_)
        | (refine Go.Great.wpList_boxTo rfl 25 (.tmp 1) rfl (some 5) rfl (w.heap.size + 1) (by simp) (vb nonce) rfl ?_))
      generalize (w.alloc (Obj.cells (vb k) 23)).alloc (Obj.cells (vb nonce) 25) = Z at *
      go_wp2_with (go_at_call 7; (refine (HAW.out Z HB.out).mono ?_); rintro e W6 ⟨rfl, hb⟩; have HB6 := Lib.hid (HB.out.trans (hb.mono HB.out.size)); clear hb)
      go_ret
      exact ⟨rfl, HB6.out⟩
    · have p1 : (200 : Int) < (sealed.length : Int) := by omega
      clear h1 h2
      go_enter Tryd.func4, Tryd.ntmps4
      go_upto_region 1 with (first
        | (refine Go.Great.wpList_boxTo rfl 23 (.tmp 0) rfl (some 4) rfl w.heap.size rfl (vb k) rfl ?_)
        | (refine Go.Great.wpList_boxTo rfl 25 (.tmp 1) rfl (some 5) rfl (w.heap.size + 1) (by simp) (vb nonce) rfl ?_))
      generalize (w.alloc (Obj.cells (vb k) 23)).alloc (Obj.cells (vb nonce) 25) = Z at *
      go_wp2_with (go_at_call 7; (refine (HAW.out Z HB.out).mono ?_); rintro e W6 ⟨rfl, hb⟩; have HB6 := Lib.hid (HB.out.trans (hb.mono HB.out.size)); clear hb)
      go_ret
      exact ⟨rfl, HB6.out⟩
end Go.Proofs.YtfblpkjablgafaaDoor
