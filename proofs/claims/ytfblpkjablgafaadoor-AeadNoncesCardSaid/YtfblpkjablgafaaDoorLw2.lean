/- AeadSeals: the walk. -/
import Derived.Test.YtfblpkjablgafaaDoorLw1
namespace Go.Proofs.YtfblpkjablgafaaDoor
open Go.RowKit
set_option linter.unusedVariables false
set_option linter.unusedSimpArgs false
theorem seal_len (k nonce beside plain : List Nat) : (sealL k nonce beside plain).length = plain.length + 16 := by
  unfold sealL; rw [List.length_append, xorL_len, tagL_len]
theorem seal_lt (k nonce beside : List Nat) {plain : List Nat} (h : ∀ c ∈ plain, c < 256) : ∀ c ∈ sealL k nonce beside plain, c < 256 := fun c hc => by
  unfold sealL at hc
  rcases List.mem_append.1 hc with h1 | h1
  · exact xorL_lt _ _ _ h c h1
  · exact form_lt _ _ c h1
theorem seal_open (k nonce beside plain : List Nat) (h : plain.length ≤ 4096) : openErr k nonce beside (sealL k nonce beside plain) = 0 ∧ openL k nonce beside (sealL k nonce beside plain) = plain := by
  have hl := seal_len k nonce beside plain
  have e1 : (sealL k nonce beside plain).take ((sealL k nonce beside plain).length - 16) = xorL k nonce 1 plain := by
    rw [hl, Nat.add_sub_cancel]
    unfold sealL
    rw [List.take_append_of_le_length (by rw [xorL_len]; exact Nat.le_refl _), List.take_of_length_le (by rw [xorL_len]; exact Nat.le_refl _)]
  have e2 : (sealL k nonce beside plain).drop ((sealL k nonce beside plain).length - 16) = tagL k nonce beside (xorL k nonce 1 plain) := by
    rw [hl, Nat.add_sub_cancel]
    unfold sealL
    rw [List.drop_append_of_le_length (by rw [xorL_len]; exact Nat.le_refl _), List.drop_of_length_le (by rw [xorL_len]; exact Nat.le_refl _), List.nil_append]
  have he : openErr k nonce beside (sealL k nonce beside plain) = 0 := by
    unfold openErr
    rw [if_neg (by omega), if_neg (by omega), e1, e2, beq_self_eq_true, if_pos rfl]
  refine ⟨he, ?_⟩
  unfold openL
  rw [if_pos he, e1, xorL_twice]
theorem LentAt.next {w w' : World} {g : Nat} {l : List Nat} (h : LentAt w g l) (hb : Below w.heap.size w w') : LentAt w' g l := h.below hb h.lt
/-- the boxes, and what was lent -/
structure Sst (w W : World) (k nonce : List Nat) (g1 g2 : Nat) (l1 l2 : List Nat) : Prop where
  bx : Kbx w W k nonce
  a : LentAt W g1 l1
  b : LentAt W g2 l2
theorem Sst.next {w W W' : World} {k nonce : List Nat} {g1 g2 : Nat} {l1 l2 : List Nat} (s : Sst w W k nonce g1 g2 l1 l2) (h : Below W.heap.size W W') : Sst w W' k nonce g1 g2 l1 l2 :=
  ⟨s.bx.next (h.mono s.bx.sz), s.a.next h, s.b.next h⟩
/-- what is sealed, lent and opened besides -/
structure Qst (w W : World) (k nonce : List Nat) (g1 g2 g3 : Nat) (l1 l2 s : List Nat) (v1 vp : Value) : Prop where
  st : Sst w W k nonce g1 g2 l1 l2
  c : LentAt W g3 s
  o1 : OwnB W w.heap.size v1 s
  o2 : OwnB W w.heap.size vp l2
theorem Qst.next {w W W' : World} {k nonce : List Nat} {g1 g2 g3 : Nat} {l1 l2 s : List Nat} {v1 vp : Value} (q : Qst w W k nonce g1 g2 g3 l1 l2 s v1 vp) (h : Below W.heap.size W W') : Qst w W' k nonce g1 g2 g3 l1 l2 s v1 vp :=
  ⟨q.st.next h, q.c.next h, q.o1.next h, q.o2.next h⟩
theorem Qst.drewN {w W : World} {k nonce : List Nat} {g1 g2 g3 : Nat} {l1 l2 s : List Nat} {v1 vp : Value} (q : Qst w W k nonce g1 g2 g3 l1 l2 s v1 vp) (n : Nat) : Qst w (W.drewN n) k nonce g1 g2 g3 l1 l2 s v1 vp := q.next (belowDrewN n (Below.refl _ _))
set_option maxRecDepth 100000 in
set_option maxHeartbeats 8000000 in
theorem aeadSeals_w (A1 A2 : Option Addr) (c1 c2 : Nat) (k nonce beside plain : List Nat) (w : World) (hk : k.length = 32) (hkl : ∀ c ∈ k, c < 256) (hc : nonce.length = 12) (hcl : ∀ c ∈ nonce, c < 256)
    (hr1 : Rd w w.heap.size A1 (byt beside)) (hr2 : Rd w w.heap.size A2 (byt plain)) (hb1 : ∀ c ∈ beside, c < 256) (hb2 : ∀ c ∈ plain, c < 256) (hq : QuartersAt w) :
    Calls Tryd.prog 3 #[.agg (vb k), .agg (vb nonce), .slice A1 beside.length c1, .slice A2 plain.length c2] w fun e w' => e = .returned (.bool true) ∧ Below w.heap.size w w' := by
  have hbx := Kbx.begin w k nonce
  have HAW := Lib.hid (fun W (h : Below w.heap.size w W) => awake06_c W (hq.next h))
  by_cases h1 : plain.length ≤ 200 ∧ beside.length ≤ 100
  · obtain ⟨h1, h2⟩ := h1
    have p1 : ¬ (200 : Int) < (plain.length : Int) := by omega
    have p2 : ¬ (100 : Int) < (beside.length : Int) := by omega
    have HIK := Lib.hid (keySz hk)
    have HIN := Lib.hid (nonSz hc)
    have HIK2 := Lib.hid (keyLn hk)
    have HIN2 := Lib.hid (nonLn hc)
    have hso := seal_open k nonce beside plain (by omega)
    have hsl := seal_len k nonce beside plain
    have HST := Lib.hid (seal_lt k nonce beside hb2)
    have HL1 := Lib.hid (fun W (h : Below w.heap.size w W) => lent_c A1 c1 beside W hb1 ((hr1.below h).more h.size) (by omega))
    have HL2 := Lib.hid (fun W (h : Below w.heap.size w W) => lent_c A2 c2 plain W hb2 ((hr2.below h).more h.size) (by omega))
    have HSC := Lib.hid (fun W g1 g2 (h : Sst w W k nonce g1 g2 beside plain) => seal_c (some ⟨g1, 0, none⟩) (some ⟨g2, 0, none⟩) (beside.length + 8) (plain.length + 8) k nonce beside plain W hk hkl hc hcl (h.a.rd.more h.a.lt) (h.b.rd.more h.b.lt) hb1 hb2 (by omega) (by omega) (hq.next h.bx.bel))
    have HOC := Lib.hid (fun W g1 g2 g3 (h : Sst w W k nonce g1 g2 beside plain) (h3 : LentAt W g3 (sealL k nonce beside plain)) => openAny_c (some ⟨g1, 0, none⟩) (some ⟨g3, 0, none⟩) (beside.length + 8) ((sealL k nonce beside plain).length + 8) k nonce beside (sealL k nonce beside plain) W hk hkl hc hcl (h.a.rd.more h.a.lt) (h3.rd.more h3.lt) hb1 HST.out (by omega) (by omega) (by omega) (hq.next h.bx.bel))
    rw [hso.1, hso.2] at HOC
    have HRS := Lib.hid (fun W (h : Below w.heap.size w W) => rseal_c A1 A2 c1 c2 k nonce beside plain W hk hkl hc hcl ((hr1.below h).more h.size) ((hr2.below h).more h.size) hb1 hb2 (by omega) (by omega))
    have HR1 := Lib.hid hr1
    have HR2 := Lib.hid hr2
    have HB1 := Lib.hid hb1
    have HB2 := Lib.hid hb2
    clear hkl hcl hr1 hr2 hb1 hb2 hq hso
    generalize sealL k nonce beside plain = sl at *
    have hsl2 : sl.length ≤ 300 := by omega
    have HSL := Lib.hid hsl
    clear hsl
    go_enter Tryd.func3, Tryd.ntmps3
    go_upto_region 1 with (first
      | (refine Go.Great.wpList_boxTo rfl 23 (.tmp 0) rfl (some 4) rfl w.heap.size rfl (vb k) rfl ?_)
      | (refine Go.Great.wpList_boxTo rfl 25 (.tmp 1) rfl (some 5) rfl (w.heap.size + 1) (by simp) (vb nonce) rfl ?_))
    generalize (w.alloc (Obj.cells (vb k) 23)).alloc (Obj.cells (vb nonce) 25) = Z at *
    have HB := Lib.hid hbx
    clear hbx
    go_upto_region 4 with (first
      | (go_at_call 8; ((with_reducible refine (HL1.out Z HB.out.bel).mono ?_); rintro e W1 ⟨rfl, hg, hb⟩; have HG1 := Lib.hid (show LentAt W1 Z.heap.size beside from hg); have HBX1 := Lib.hid (HB.out.next (hb.mono HB.out.sz)); clear hg hb))
      | (go_at_call 8; ((with_reducible refine (HL2.out W1 HBX1.out.bel).mono ?_); rintro e W2 ⟨rfl, hg, hb⟩; have HS2 := Lib.hid (show Sst w W2 k nonce Z.heap.size W1.heap.size beside plain from ⟨HBX1.out.next (hb.mono HBX1.out.sz), HG1.out.next hb, hg⟩); clear hg hb)))
    generalize Z.heap.size = g1 at *
    generalize W1.heap.size = g2 at *
    clear HB HG1 HBX1 HL1 HL2
    go_upto_region 5 with (first
      | (refine wpList_load_row rfl 23 (.tmp 4) rfl w.heap.size rfl 23 (vb k) (0, 0) _ HS2.out.bx.kA Tryd.underlying23 rfl HIK.out ?_)
      | (refine wpList_load_row rfl 25 (.tmp 5) rfl (w.heap.size + 1) rfl 25 (vb nonce) (0, 0) _ HS2.out.bx.nA Tryd.underlying25 rfl HIN.out ?_)
      | (go_at_call 9; (refine (HSC.out W2 g1 g2 HS2.out).mono ?_); rintro e W3 ⟨v1, rfl, ho, hb⟩; have HO3 := Lib.hid (show OwnB W3 w.heap.size v1 sl from own_base_le ho HS2.out.bx.bel.size); have HS3 := Lib.hid (HS2.out.next hb); clear ho hb))
    obtain ⟨A5, k5, rfl, _, _, r5⟩ := HO3.out.rd
    have HLC := Lib.hid (lent_c A5 k5 sl W3 HST.out r5 (by omega))
    clear r5
    go_upto_region 6 with (go_at_call 8; ((refine HLC.out.mono ?_); rintro e W4 ⟨rfl, hg, hb⟩; have HG4 := Lib.hid (show LentAt W4 W3.heap.size sl from hg); have HS4 := Lib.hid (HS3.out.next hb); have HO4 := Lib.hid (show OwnB W4 w.heap.size (.slice A5 sl.length k5) sl from OwnB.next HO3.out hb); clear hg hb))
    generalize W3.heap.size = g3 at *
    clear HO3 HS3 HS2 HLC HSC
    go_upto_region 7 with (first
      | (refine wpList_load_row rfl 23 (.tmp 4) rfl w.heap.size rfl 23 (vb k) (0, 0) _ HS4.out.bx.kA Tryd.underlying23 rfl HIK.out ?_)
      | (refine wpList_load_row rfl 25 (.tmp 5) rfl (w.heap.size + 1) rfl 25 (vb nonce) (0, 0) _ HS4.out.bx.nA Tryd.underlying25 rfl HIN.out ?_)
      | (go_at_call 10; (refine (HOC.out W4 g1 g2 g3 HS4.out HG4.out).mono ?_); rintro e W5 ⟨vp, rfl, ho, hb⟩; have HQ5 := Lib.hid (show Qst w W5 k nonce g1 g2 g3 beside plain sl (.slice A5 sl.length k5) vp from ⟨HS4.out.next hb, HG4.out.next hb, OwnB.next HO4.out hb, own_base_le ho HS4.out.bx.bel.size⟩); clear ho hb))
    clear HO4 HG4 HS4 HOC
    obtain ⟨A6, k6, rfl, _, _, _⟩ := HQ5.out.o2.rd
    go_wp2_with (first
      | (refine wpList_loadG rfl 23 (.tmp 4) rfl w.heap.size 0 rfl (byt k) _ (range_all HQ5.out.st.bx.kA) Tryd.underlying23 rfl HIK2.out ?_)
      | (refine wpList_loadG rfl 25 (.tmp 5) rfl (w.heap.size + 1) 0 rfl (byt nonce) _ (range_all HQ5.out.st.bx.nA) Tryd.underlying25 rfl HIN2.out ?_)
      | (go_at_call 12; (refine (HRS.out W5 HQ5.out.st.bx.bel).mono ?_); rintro e W6 ⟨v6, rfl, ho, hb⟩; have HO6 := Lib.hid (show OwnB W6 W5.heap.size v6 sl from ho); have HQ6 := Lib.hid (HQ5.out.next hb); clear ho hb)
      | (go_at_call 11; ((with_reducible refine (same_true w.heap.size W5.heap.size (.slice A5 sl.length k5) v6 sl W6 HST.out (by omega) HQ6.out.o1 HO6.out).mono ?_); rintro e W7 ⟨rfl, q7, rfl⟩; have HQ7 := Lib.hid (HQ6.out.drewN q7); generalize W6.drewN q7 = W7 at *))
      | (go_at_call 11; (refine (same_c W7.heap.size w.heap.size A6 A2 k6 c2 plain plain W7 HB2.out HB2.out (OwnB.rdAt HQ7.out.o2) (HR2.out.below HQ7.out.st.bx.bel) (by omega) (by omega)).mono ?_); rw [beq_self_eq_true]; rintro e W8 ⟨rfl, q8, rfl⟩; have HQ8 := Lib.hid (HQ7.out.drewN q8); generalize W7.drewN q8 = W8 at *)
      | (go_at_call 13; ((with_reducible refine (kept_c g1 w.heap.size A1 c1 beside W8 HB1.out HQ8.out.st.a (HR1.out.below HQ8.out.st.bx.bel) (by omega)).mono ?_); rintro e W9 ⟨rfl, q9, rfl⟩; have HQ9 := Lib.hid (HQ8.out.drewN q9); generalize W8.drewN q9 = W9 at *))
      | (go_at_call 13; ((with_reducible refine (kept_c g2 w.heap.size A2 c2 plain W9 HB2.out HQ9.out.st.b (HR2.out.below HQ9.out.st.bx.bel) (by omega)).mono ?_); rintro e Wa ⟨rfl, qa, rfl⟩; have HQa := Lib.hid (HQ9.out.drewN qa); generalize W9.drewN qa = Wa at *))
      | (go_at_call 13; ((with_reducible refine (kept_c g3 Wa.heap.size A5 k5 sl Wa HST.out HQa.out.c (OwnB.rdAt HQa.out.o1) (by omega)).mono ?_); rintro e Wb ⟨rfl, qb, rfl⟩; have HQb := Lib.hid (HQa.out.drewN qb); generalize Wa.drewN qb = Wb at *))
      | (go_at_call 7; (refine (HAW.out Wb HQb.out.st.bx.bel).mono ?_); rintro e Wc ⟨rfl, hb⟩; have HBc := Lib.hid (HQb.out.st.bx.bel.trans (hb.mono HQb.out.st.bx.bel.size)); clear hb))
    go_ret
    exact ⟨rfl, HBc.out⟩
  · clear hr1 hr2 hb1 hb2 hkl hcl hk hc hq
    have HB := Lib.hid hbx.bel
    clear hbx
    by_cases h2 : plain.length ≤ 200
    · have p1 : ¬ (200 : Int) < (plain.length : Int) := by omega
      have p2 : (100 : Int) < (beside.length : Int) := by omega
      clear h1 h2
      go_enter Tryd.func3, Tryd.ntmps3
      go_upto_region 1 with (first
        | (refine Go.Great.wpList_boxTo rfl 23 (.tmp 0) rfl (some 4) rfl w.heap.size rfl (vb k) rfl ?_)
        | (refine Go.Great.wpList_boxTo rfl 25 (.tmp 1) rfl (some 5) rfl (w.heap.size + 1) (by simp) (vb nonce) rfl ?_))
      generalize (w.alloc (Obj.cells (vb k) 23)).alloc (Obj.cells (vb nonce) 25) = Z at *
      go_wp2_with (go_at_call 7; (refine (HAW.out Z HB.out).mono ?_); rintro e W6 ⟨rfl, hb⟩; have HB6 := Lib.hid (HB.out.trans (hb.mono HB.out.size)); clear hb)
      go_ret
      exact ⟨rfl, HB6.out⟩
    · have p1 : (200 : Int) < (plain.length : Int) := by omega
      clear h1 h2
      go_enter Tryd.func3, Tryd.ntmps3
      go_upto_region 1 with (first
        | (refine Go.Great.wpList_boxTo rfl 23 (.tmp 0) rfl (some 4) rfl w.heap.size rfl (vb k) rfl ?_)
        | (refine Go.Great.wpList_boxTo rfl 25 (.tmp 1) rfl (some 5) rfl (w.heap.size + 1) (by simp) (vb nonce) rfl ?_))
      generalize (w.alloc (Obj.cells (vb k) 23)).alloc (Obj.cells (vb nonce) 25) = Z at *
      go_wp2_with (go_at_call 7; (refine (HAW.out Z HB.out).mono ?_); rintro e W6 ⟨rfl, hb⟩; have HB6 := Lib.hid (HB.out.trans (hb.mono HB.out.size)); clear hb)
      go_ret
      exact ⟨rfl, HB6.out⟩
end Go.Proofs.YtfblpkjablgafaaDoor
