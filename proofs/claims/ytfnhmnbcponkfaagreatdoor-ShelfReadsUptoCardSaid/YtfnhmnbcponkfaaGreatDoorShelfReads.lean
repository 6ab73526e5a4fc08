/- ShelfReads returns true for any groups of pieces, epochs and further pieces, where what it reads is of bulk at most 1048576. Conditions: the table of the quarters is as its initialiser lays it. -/
import Derived.Test.YtfnhmnbcponkfaaGreatDoorZ14
import Derived.Test.YtfnhmnbcponkfaaGreatDoorTie
import Derived.Test.YtfnhmnbcponkfaaGreatDoorCards
import Derived.SevenTiedAt
set_option maxRecDepth 100000
set_option linter.unusedVariables false
set_option linter.unusedSimpArgs false
namespace Go.Proofs.YtfnhmnbcponkfaaGreatDoor
open Go.RowKit
theorem epS_le (es : List Nat) (i : Nat) : 1 ≤ epS es i ∧ epS es i ≤ 3 := by unfold epS; omega
theorem bxS_opok {gs : List (List Pc)} {es : List Nat} {i : Nat} (h : OkS gs es i) (hp : ∀ p ∈ grS gs i, PcOk p ∧ p.s.size ≤ 9223372036854775807) : OpOk kf3 (bxS gs es i) ∧ opB kf3 (bxS gs es i) = grS gs i ∧ kf3 (bxS gs es i).ep ≠ none := by
  obtain ⟨h1, h3⟩ := epS_le es i
  have hk := kf3_at h1 h3
  have hp1 : ∀ p ∈ grS gs i, PcOk p := fun p hpp => (hp p hpp).1
  have hos := open_sealed (keyE (epS es i)) (nnS i) (tnS es i) (epS es i) (grS gs i) (tnS_name es i) h.ck hp1
  have hB : opB kf3 (bxS gs es i) = grS gs i := by
    unfold opB bxS
    simp only [hk]
    exact hos.2
  refine ⟨⟨⟨nnS_len i, nnS_lt i, boxL_lt5 _ _ _ _ _ h.ck, by show epS es i < 4294967296; omega⟩, ?_, ?_, fun k hkk => ?_, ?_, ?_⟩, hB, ?_⟩
  · show (tnS es i).size ≤ 1000
    unfold tnS
    split <;> decide
  · have := boxL_le5 (keyE (epS es i)) (nnS i) (tnS es i) (epS es i) (grS gs i) h.ck hp1
    show (boxL (keyE (epS es i)) (nnS i) (tnS es i) (epS es i) (grS gs i)).length ≤ 100000
    omega
  · have hk2 : kf3 (epS es i) = some k := hkk
    rw [hk] at hk2
    injection hk2 with hk2
    subst hk2
    exact ⟨keyE_len _, keyE_lt (by omega), hos.1⟩
  · rw [hB]; have := h.le; omega
  · rw [hB]; exact hp
  · show kf3 (epS es i) ≠ none
    rw [hk]
    intro h
    cases h
theorem of_shelved {gs : List (List Pc)} {es : List Nat} (hp : ∀ i, ∀ p ∈ grS gs i, PcOk p ∧ p.s.size ≤ 9223372036854775807) : ∀ n, (∀ i, i < n → OkS gs es i) → (ofT tenT (bxsS gs es n)).map (opB kf3) = (grsS gs es n).map (·.l) ∧ (∀ b ∈ bxsS gs es n, OpOk kf3 b ∧ kf3 b.ep ≠ none)
  | 0, _ => ⟨rfl, fun b hb => by cases hb⟩
  | n + 1, h => by
    obtain ⟨ih1, ih2⟩ := of_shelved hp n (fun i hi => h i (by omega))
    obtain ⟨ho, hb, hk⟩ := bxS_opok (h n (by omega)) (hp n)
    refine ⟨?_, fun b hbb => ?_⟩
    · rw [bxsS_succ, grsS_succ]
      by_cases h2 : 200 ≤ es.getD n 0
      · rw [if_pos h2, ofT_snoc_no (show ((bxS gs es n).t.toList == tenT.toList) = false by
          show ((tnS es n).toList == tenT.toList) = false
          unfold tnS
          rw [if_pos h2]
          decide +kernel)]
        exact ih1
      · rw [if_neg h2, ofT_snoc_yes (show ((bxS gs es n).t.toList == tenT.toList) = true by
          show ((tnS es n).toList == tenT.toList) = true
          unfold tnS
          rw [if_neg h2]
          decide +kernel), List.map_append, List.map_append, ih1]
        simp only [List.map_cons, List.map_nil, hb]
        rfl
    · rw [bxsS_succ] at hbb
      rcases List.mem_append.1 hbb with h3 | h3
      · exact ih2 b h3
      · rw [List.mem_singleton.1 h3]; exact ⟨ho, hk⟩
theorem of_shelved_len {gs : List (List Pc)} {es : List Nat} {n : Nat} (h : (ofT tenT (bxsS gs es n)).map (opB kf3) = (grsS gs es n).map (·.l)) : (ofT tenT (bxsS gs es n)).length = (grsS gs es n).length := by
  have := congrArg List.length h
  rwa [List.length_map, List.length_map] at this
def allG (os : List Gro3) (n : Nat) : List Pc := ((os.take n).map (·.l)).flatten
theorem allG_succ (os : List Gro3) {n : Nat} (h : n < os.length) : allG os (n + 1) = allG os n ++ (os.getD n gr0).l := by
  unfold allG
  rw [List.take_add_one, List.getElem?_eq_getElem h, List.map_append, List.flatten_append, List.getD_eq_getElem?_getD, List.getElem?_eq_getElem h]
  simp
theorem allG_len (os : List Gro3) (m : Nat) (h : ∀ g ∈ os, g.l.length ≤ m) (n : Nat) : (allG os n).length ≤ os.length * m := by
  unfold allG
  have h1 := flat_len ((os.take n).map (·.l)) m (fun L hL => by
    obtain ⟨g, hg, rfl⟩ := List.mem_map.1 hL
    exact h g (List.mem_of_mem_take hg))
  rw [List.length_map, List.length_take] at h1
  exact Nat.le_trans h1 (Nat.mul_le_mul_right _ (Nat.min_le_right _ _))
theorem grsS_le {gs : List (List Pc)} {es : List Nat} {n : Nat} (h : ∀ i, i < n → OkS gs es i) : ∀ g ∈ grsS gs es n, g.l.length ≤ 32 ∧ ∃ i, g.l = grS gs i := fun g hg => by
  unfold grsS at hg
  obtain ⟨i, hi, rfl⟩ := List.mem_map.1 hg
  have := List.mem_range.1 (List.mem_filter.1 hi).1
  exact ⟨(h i this).le, i, rfl⟩
theorem grL_13 (g : Gro3) (A : Option Addr) (c : Nat) (h : g.nn.length = 12) : (grL g A c)[13]? = some (.slice A g.l.length c) := by
  unfold grL
  rw [List.getElem?_append_right (by simp [byt_len, h])]
  simp [byt_len, h]
end Go.Proofs.YtfnhmnbcponkfaaGreatDoor
namespace Go.Proofs.YtfnhmnbcponkfaaGreatDoor
open Go.RowKit
def nnB : List Nat := 77 :: List.replicate 11 0
theorem nnB_len : nnB.length = 12 := by simp [nnB]
theorem nnB_lt : ∀ c ∈ nnB, c < 256 := by
  intro c hc
  rcases List.mem_cons.1 hc with rfl | hc
  · decide
  · rw [List.eq_of_mem_replicate hc]; decide
theorem built_nnB : Tryz.prog.built 57 [(0, .int .u8 77)] = some (vb nnB) := by kernel_rfl
set_option maxHeartbeats 32000000 in
theorem reads29l_c (A : Option Addr) (cA : Nat) (gs : List (List Pc)) (B : Option Addr) (cB : Nat) (es : List Nat) (C : Option Addr) (cC : Nat) (mo : List Pc) (w : World) (hls : LsAt w A gs) (hgl : gs.length ≤ 1048576) (hgp : ∀ g ∈ gs, g.length ≤ 9223372036854775807 ∧ ∀ p ∈ g, PcOk p ∧ p.s.size ≤ 9223372036854775807) (hes : Rd w w.heap.size B (byt es)) (heb : ∀ c ∈ es, c < 256) (hel : es.length ≤ 9223372036854775807) (hmo : RdP w w.heap.size C mo) (hmc : mo.length ≤ cC) (hm1 : mo.length ≤ 9223372036854775807) (hmp : ∀ p ∈ mo, PcOk p ∧ p.s.size ≤ 9223372036854775807) (hq : QuartersAt w) :
    Calls Tryz.prog 4 #[.slice A gs.length cA, .slice B es.length cB, .slice C mo.length cC] w fun e w' => e = .returned (.bool true) ∧ Below w.heap.size w w' := by
  obtain ⟨i0, hi, hz0, hz1, hz2⟩ := piece_parts
  have zf := zero_ch
  have zs1 : zCh.size = 45 := by rfl
  have zs2 : ¬ zCh = #[] := by intro h; have := congrArg Array.size h; rw [zs1] at this; cases this
  have hsv := shelved_c A cA gs B cB es w hls hgl hgp hes heb hel hq
  have HQ := Lib.hid hq
  have HMO := Lib.hid hmo
  have HMC := Lib.hid hmc
  have HM1 := Lib.hid hm1
  have HMP := Lib.hid hmp
  have HGP := Lib.hid hgp
  have HGL := Lib.hid hgl
  have HAWF := Lib.hid (fun W (hb : Below w.heap.size w W) => awake29_c W (hq.next hb))
  clear hq hls hgl hgp hes heb hmo hmc hm1 hmp
  by_cases hO : ∀ i, i < gs.length → OkS gs es i
  case neg =>
    have hs2 : Calls Tryz.prog 5 #[.slice A gs.length cA, .slice B es.length cB] w fun e w' => e = .returned (.tuple #[.slice none 0 0, .slice none 0 0, .bool false]) ∧ Below w.heap.size w w' := by
      refine hsv.mono ?_
      rintro e w' ⟨h, hb⟩
      rcases h with ⟨_, e1⟩ | ⟨h, _⟩
      · exact ⟨e1, hb⟩
      · exact absurd h hO
    have HSV := Lib.hid hs2
    clear hsv hs2 hO
    go_enter Tryz.func4, Tryz.ntmps4
    go_wp2_with (first
      | (go_at_call 5; (with_reducible refine HSV.out.mono ?_); rintro e W1 ⟨rfl, hb⟩; have HB1 := Lib.hid hb; have HAW := Lib.hid (HAWF.out W1 hb); clear hb)
      | (go_at_call 6; (with_reducible refine HAW.out.mono ?_); rintro e W9 ⟨rfl, hb⟩; have HB9 := Lib.hid (HB1.out.trans (hb.mono HB1.out.size)); clear hb))
    go_ret
    exact ⟨rfl, HB9.out⟩
  case pos =>
  have hs2 : Calls Tryz.prog 5 #[.slice A gs.length cA, .slice B es.length cB] w fun e w' => ∃ Ax cx Ag cg, e = .returned (.tuple #[.slice Ax gs.length cx, .slice Ag (grsS gs es gs.length).length cg, .bool true]) ∧ RdX w' Ax (bxsS gs es gs.length) ∧ RdO w' Ag (grsS gs es gs.length) ∧ Below w.heap.size w w' := by
    refine hsv.mono ?_
    rintro e w' ⟨h, hb⟩
    rcases h with ⟨⟨i, hi, h⟩, _⟩ | ⟨_, Ax, cx, Ag, cg, e1, h1, h2⟩
    · exact absurd (hO i hi) h
    · exact ⟨Ax, cx, Ag, cg, e1, h1, h2, hb⟩
  have HSV := Lib.hid hs2
  clear hsv hs2
  by_cases h8 : gs.length ≤ 8
  case neg =>
    have q1 : (8 : Int) < (gs.length : Int) := by omega
    clear h8 hO
    obtain ⟨ng, hng⟩ : ∃ ng, ng = (grsS gs es gs.length).length := ⟨_, rfl⟩
    rw [← hng] at HSV
    clear hng
    go_enter Tryz.func4, Tryz.ntmps4
    go_wp2_with (first
      | (go_at_call 5; (with_reducible refine HSV.out.mono ?_); rintro e W1 ⟨Ax, cx, Ag, cg, rfl, _, _, hb⟩; have HB1 := Lib.hid hb; have HAW := Lib.hid (HAWF.out W1 hb); clear hb)
      | (go_at_call 6; (with_reducible refine HAW.out.mono ?_); rintro e W9 ⟨rfl, hb⟩; have HB9 := Lib.hid (HB1.out.trans (hb.mono HB1.out.size)); clear hb))
    go_ret
    exact ⟨rfl, HB9.out⟩
  case pos =>
  have q1 : ¬ (8 : Int) < (gs.length : Int) := by omega
  have HGC := Lib.hid (fun W (hb : Below w.heap.size w W) => show Calls Tryz.prog 17 #[.slice C mo.length cC, .int .i64 40] W (fun e w' => e = .returned (.bool (greatB mo 40)) ∧ W = w') from great_c w.heap.size C cC mo 40 W (Rd.below HMO.out hb) HM1.out (by decide) (fun p hp => (HMP.out p hp).2))
  cases hgr : greatB mo 40 with
  | true =>
    rw [hgr] at HGC
    clear hgr h8 hO
    obtain ⟨ng, hng⟩ : ∃ ng, ng = (grsS gs es gs.length).length := ⟨_, rfl⟩
    rw [← hng] at HSV
    clear hng
    go_enter Tryz.func4, Tryz.ntmps4
    go_wp2_with (first
      | (go_at_call 5; (with_reducible refine HSV.out.mono ?_); rintro e W1 ⟨Ax, cx, Ag, cg, rfl, _, _, hb⟩; have HB1 := Lib.hid hb; have HAW := Lib.hid (HAWF.out W1 hb); have HG1 := Lib.hid (HGC.out W1 hb); clear hb)
      | (go_at_call 17; (with_reducible refine HG1.out.mono ?_); rintro e W0 ⟨rfl, rfl⟩)
      | (go_at_call 6; (with_reducible refine HAW.out.mono ?_); rintro e W9 ⟨rfl, hb⟩; have HB9 := Lib.hid (HB1.out.trans (hb.mono HB1.out.size)); clear hb))
    go_ret
    exact ⟨rfl, HB9.out⟩
  | false =>
  rw [hgr] at HGC
  obtain ⟨hnum, hsz⟩ := greatB_no hgr
  have hgrp : ∀ i, ∀ p ∈ grS gs i, PcOk p ∧ p.s.size ≤ 9223372036854775807 := fun i p hp => by
    have hp2 := merge_sub _ p hp
    have hgm : gs.getD i [] ∈ gs := by
      rcases Nat.lt_or_ge i gs.length with h | h
      · rw [List.getD_eq_getElem?_getD, List.getElem?_eq_getElem h]; exact List.getElem_mem h
      · rw [List.getD_eq_getElem?_getD, List.getElem?_eq_none h] at hp2; cases hp2
    exact (HGP.out _ hgm).2 p hp2
  obtain ⟨hmap, hbok⟩ := of_shelved hgrp gs.length hO
  have holen := of_shelved_len hmap
  have hgle := grsS_le hO
  have hngl := grsS_len gs es gs.length
  have hbxl := bxsS_len gs es gs.length
  obtain ⟨bs, hbs⟩ : ∃ bs, bs = bxsS gs es gs.length := ⟨_, rfl⟩
  obtain ⟨os, hos⟩ : ∃ os, os = grsS gs es gs.length := ⟨_, rfl⟩
  rw [← hbs, ← hos] at hmap holen
  rw [← hbs] at hbok hbxl
  rw [← hos] at hgle hngl
  rw [← hbs, ← hos] at HSV
  have hosp : ∀ g ∈ os, ∀ p ∈ g.l, PcOk p ∧ p.s.size ≤ 9223372036854775807 := fun g hg p hp => by
    obtain ⟨_, i, e⟩ := hgle g hg
    rw [e] at hp
    exact hgrp i p hp
  have HRD := Lib.hid (fun W Ax cx kb (hx : RdX W Ax bs) (hk : KeysAt W kb 3 (kmV kf3)) (hqW : QuartersAt W) => show Calls Tryz.prog 18 #[.map (some kb), .slice Ax gs.length cx, .string tenT] W fun e w' => ∃ v, e = .returned (.tuple #[v, .int .i64 0]) ∧ OwnP w' W.heap.size v (mergeL (os.map (·.l)).flatten) ∧ Below W.heap.size W w' by
    have h := read29_c Ax cx bs tenT kb 3 kf3 W hx (by rw [hbxl]; omega) (by rw [holen]; omega) (fun b hb => (hbok b hb).1.bs) hk (fun b hb => (hbok b (ofT_mem hb)).1) hqW
    rw [hbxl] at h
    refine h.mono ?_
    rintro e w' ⟨h2, hb2⟩
    rcases h2 with ⟨⟨b, h3, h4⟩, _⟩ | ⟨_, v, e1, h3⟩
    · exact absurd h4 (hbok b (ofT_mem h3)).2
    · rw [hmap] at h3
      exact ⟨v, e1, h3, hb2⟩)
  have HOFC := Lib.hid (fun W Ax cx (hx : RdX W Ax bs) => show Calls Tryz.prog 20 #[.slice Ax gs.length cx, .string tenT] W fun e w' => ∃ Ay cy, e = .returned (.slice Ay os.length cy) ∧ Below W.heap.size W w' by
    have h := of29_c Ax cx bs tenT W hx (by rw [hbxl]; omega) (fun b hb => (hbok b hb).1.bs)
    rw [hbxl] at h
    refine h.mono ?_
    rintro e w' ⟨Ay, cy, e1, _, _, hb⟩
    exact ⟨Ay, cy, by rw [e1, holen], hb⟩)
  have hal : ∀ n, (allG os n).length ≤ 256 := fun n => by
    have h := allG_len os 32 (fun g hg => (hgle g hg).1) n
    have h2 : os.length * 32 ≤ 8 * 32 := Nat.mul_le_mul_right _ (by omega)
    omega
  have hall : allG os os.length = (os.map (·.l)).flatten := by unfold allG; rw [List.take_length]
  have hok0 : ∀ p ∈ (os.map (·.l)).flatten, PcOk p ∧ p.s.size ≤ 9223372036854775807 := fun p hp => by
    obtain ⟨L, hL, hpL⟩ := List.mem_flatten.1 hp
    obtain ⟨g, hg, rfl⟩ := List.mem_map.1 hL
    exact hosp g hg p hpL
  have HAL := Lib.hid hal
  have HALL := Lib.hid hall
  have HOK0 := Lib.hid hok0
  have HGLE := Lib.hid (fun g (hg : g ∈ os) => (hgle g hg).1)
  have HOL := Lib.hid (show os.length ≤ 8 by omega)
  have HNUM := Lib.hid hnum
  have HSZ := Lib.hid hsz
  have HG8 := Lib.hid h8
  clear hgr hnum hsz hgrp hmap hbok holen hgle hngl hbxl hbs hos hosp hal hall hok0 h8 hO
  go_enter Tryz.func4, Tryz.ntmps4
  go_upto_region 4 with (first
    | (go_at_call 5; (with_reducible refine HSV.out.mono ?_); rintro e W1 ⟨Ax, cx, Ag, cg, rfl, hx, hg, hb⟩; have HB1 := Lib.hid hb; have HX1 := Lib.hid hx; have HO1 := Lib.hid hg; have HG1 := Lib.hid (HGC.out W1 hb); clear hb hx hg)
    | (go_at_call 17; (with_reducible refine HG1.out.mono ?_); rintro e W0 ⟨rfl, rfl⟩))
  clear HSV HGC HG1
  go_wp2_with fail
  go_loopw [10, 11] (fun av iv wr => ∃ i : Nat, i ≤ os.length ∧ iv = .int .i64 (i : Nat) ∧ OwnP wr W1.heap.size av (allG os i) ∧ Below W1.heap.size W1 wr) (fun _ iv _ => os.length - (intOf iv).toNat)
  case atStart => exact ⟨0, Nat.zero_le _, rfl, OwnP.nilM _ _, Below.refl _ _⟩
  case round =>
    rename World => wr
    obtain ⟨i, hi, rfl, ho, hb⟩ := hrel
    by_cases hlt : i < os.length
    · have r1 : (i : Int) < (os.length : Int) := by omega
      have m1 : (i : Int) ≤ 8 := by have := HOL.out; omega
      obtain ⟨ad, Ai, ci, rfl, hab, hat, hci, hri, hgo⟩ := (HO1.out.next hb).at_ hlt
      have c0 : wr.cell? ⟨(ad.add (i * 14)).block, (ad.add (i * 14)).off + 13, none⟩ = some (.slice Ai (os.getD i gr0).l.length ci) := hat 13 _ (grL_13 _ _ _ hgo.nl)
      have hsc := allG_succ os hlt
      have hgm : os.getD i gr0 ∈ os := by rw [List.getD_eq_getElem?_getD, List.getElem?_eq_getElem hlt]; exact List.getElem_mem hlt
      have hg32 := HGLE.out _ hgm
      generalize (os.getD i gr0).l = gl at *
      obtain ⟨a1, ha1⟩ : ∃ a1, a1 = allG os i := ⟨_, rfl⟩
      have hal1 := HAL.out i
      rw [← ha1] at hsc ho hal1
      have HSC := Lib.hid hsc
      have HO := Lib.hid ho
      have HB := Lib.hid hb
      have HRI := Lib.hid hri
      have HLT := Lib.hid hlt
      have HL32 := Lib.hid hg32
      have HA1 := Lib.hid hal1
      clear hsc ho hb hri hlt hg32 hal1 ha1 hgm hat hci hgo hab hi
      go_wp2_with (at_builtin; refine wpList_app _ rfl (.tmp 43) (.tmp 48) _ rfl W1.heap.size 77 i0 (.agg zPc) 5 48 Tryz.underlying31 hi hz0 hz1 hz2 rfl (by decide) _ a1.length (pcs a1) rfl HO.out wr.heap.size Ai gl.length ci (pcs gl) rfl (pcs_len _) (show Rd wr wr.heap.size Ai (pcs gl) from HRI.out) (pcs_oneCell _) (by have := HA1.out; have := HL32.out; omega) (by have := HA1.out; have := HL32.out; omega) HB.out.size ?_
                   intro v4 W4 hap
                   have HB4 := Lib.hid (HB.out.trans (hap.below HO.out HB.out.size))
                   have HO4 := Lib.hid (OwnP.appM (l := a1) (m := gl) hap)
                   clear hap)
      go_roundw
      case rel => exact ⟨i + 1, HLT.out, by go_num, by rw [HSC.out]; exact HO4.out, HB4.out⟩
      case measure => have := HLT.out; simp [intOf]; omega
    · obtain rfl : i = os.length := by omega
      have HS1 := Lib.hid (HX1.out.next hb)
      obtain ⟨Aa, ca, rfl, _, _, hra⟩ := ho.rd
      rw [HALL.out] at hra ⊢
      have hal0 := HAL.out os.length
      rw [HALL.out] at hal0
      obtain ⟨al, hal⟩ : ∃ al, al = (os.map (·.l)).flatten := ⟨_, rfl⟩
      rw [← hal] at hra hal0 HOK0 HRD ⊢
      have HRA := Lib.hid hra
      have HB0 := Lib.hid (HB1.out.trans (hb.mono HB1.out.size))
      have HAL0 := Lib.hid hal0
      have HKS := Lib.hid (keys29_c wr)
      have HMLA := Lib.hid (show (mergeL al).length ≤ 256 from Nat.le_trans (merge_len _) hal0)
      clear ho hb hlt hi hra hal0 hal
      obtain ⟨ml, hml⟩ : ∃ ml, ml = mergeL al := ⟨_, rfl⟩
      rw [← hml] at HRD HMLA
      have HRMA := Lib.hid (fun W (hb : Below wr.heap.size wr W) => show Calls Tryz.prog 19 #[.slice Aa al.length ca] W fun e w' => ∃ v, e = .returned v ∧ OwnP w' W.heap.size v ml ∧ Below W.heap.size W w' by
        rw [hml]
        exact rmerge_c Aa ca al W ((Rd.below (show Rd wr wr.heap.size Aa (pcs al) from HRA.out) hb).more hb.size) (by have := HAL0.out; omega) HOK0.out)
      clear hml
      go_upto_region 12 with (first
        | (go_at_call 8; (with_reducible refine HKS.out.mono ?_); rintro e W2 ⟨kb, rfl, hkb, hb⟩; have HBW2 := Lib.hid hb; have HR2 := Lib.hid (HRD.out W2 Ax cx kb (HS1.out.next hb) hkb ((HQ.out.next HB0.out).next hb)); clear hkb hb)
        | (go_at_call 18; (refine HR2.out.mono ?_); rintro e W3 ⟨v, rfl, ho, hb⟩; obtain ⟨A3, c3, rfl, _, _, hr3⟩ := ho.rd; have HBW3 := Lib.hid (HBW2.out.trans (hb.mono HBW2.out.size)); have HR3 := Lib.hid (show RdP W3 W3.heap.size A3 ml from hr3); have HRM3 := Lib.hid (HRMA.out W3 HBW3.out); clear ho hb hr3)
        | (go_at_call 19; (with_reducible refine HRM3.out.mono ?_); rintro e W4 ⟨v, rfl, ho, hb⟩; obtain ⟨A4, c4, rfl, _, _, hr4⟩ := ho.rd; have HBW4 := Lib.hid (HBW3.out.trans (hb.mono HBW3.out.size)); have HSM := Lib.hid (rsameP_c W4.heap.size W4.heap.size A3 A4 c3 c4 ml W4 ((Rd.below (show Rd W3 W3.heap.size A3 (pcs ml) from HR3.out) hb).more hb.size) hr4 (by have := HMLA.out; omega)); clear ho hb hr4)
        | (go_at_call 11; (with_reducible refine HSM.out.mono ?_); rintro e W5 ⟨rfl, nq, hd⟩; have HBW5 := Lib.hid (show Below wr.heap.size wr W5 by rw [hd]; exact belowDrewN nq HBW4.out); have HOF5 := Lib.hid (HOFC.out W5 Ax cx (HS1.out.next HBW5.out)); clear hd)
        | (go_at_call 20; (refine HOF5.out.mono ?_); rintro e W6 ⟨Ay, cy, rfl, hb⟩; have HB6 := Lib.hid (HB0.out.trans ((HBW5.out.trans (hb.mono HBW5.out.size)).mono HB0.out.size)); clear hb))
      clear HKS HRD HR2 HRM3 HSM HOF5 HOFC HRMA HBW2 HBW3 HBW4 HBW5 HR3 HS1 HRA HX1 HO1 HB0
      have hmok : ∀ p ∈ mo, PcOk p ∧ p.s.size ≤ 1000000 := fun p hp => ⟨(HMP.out p hp).1, by have := HSZ.out p hp; omega⟩
      have hwc := fun W (hb : Below w.heap.size w W) => write29_c mo C cC (keyE 2) nnB tenT 2 W ((Rd.below (show Rd w w.heap.size C (pcs mo) from HMO.out) hb).more hb.size) HMC.out (by have := HNUM.out; omega) hmok (keyE_len 2) (keyE_lt (by decide)) nnB_len nnB_lt (by decide) (by decide) (HQ.out.next hb)
      have HKY := Lib.hid (show Calls Tryz.prog 13 #[.int .u32 2] W6 fun en w' => en = .returned (.agg (vb (keyE 2))) ∧ Below W6.heap.size W6 w' from key29_c 2 W6 (by decide))
      have HRMO := Lib.hid (fun W (hb : Below w.heap.size w W) => rmerge_c C cC mo W ((Rd.below (show Rd w w.heap.size C (pcs mo) from HMO.out) hb).more hb.size) (by have := HNUM.out; omega) (fun p hp => ⟨(hmok p hp).1, by have := (hmok p hp).2; omega⟩))
      have hMl : (mergeL mo).length ≤ 40 := Nat.le_trans (merge_len mo) HNUM.out
      have hMk : ∀ p ∈ mergeL mo, PcOk p ∧ p.s.size ≤ 1000000 := fun p hp => hmok p (merge_sub mo p hp)
      obtain ⟨M, hM⟩ : ∃ M, M = mergeL mo := ⟨_, rfl⟩
      rw [← hM] at HRMO hMl hMk
      rw [← hM] at hwc
      obtain ⟨nB, hnB⟩ : ∃ nB, nB = nnB := ⟨_, rfl⟩
      have HBN := Lib.hid (show Tryz.prog.built 57 [(0, .int .u8 77)] = some (vb nB) by rw [hnB]; exact built_nnB)
      rw [← hnB] at hwc
      obtain ⟨k2, hk2⟩ : ∃ k2, k2 = vb (keyE 2) := ⟨_, rfl⟩
      rw [← hk2] at HKY hwc
      have HNB := Lib.hid hnB
      have HK2 := Lib.hid hk2
      have HMK := Lib.hid hMk
      have HML := Lib.hid hMl
      clear hM hnB hk2 hmok hMk hMl
      have hse : sealE tenT M = chkL M := by unfold sealE; rw [tenT_name]; rfl
      by_cases hm0 : M.length = 0
      · have q2 : (M.length : Int) = 0 := by omega
        have HW1 := Lib.hid (fun W (hb : Below w.heap.size w W) => show Calls Tryz.prog 21 #[.agg k2, .agg (vb nB), .string tenT, .int .u32 2, .slice C mo.length cC] W fun e w' => e = .returned (.tuple #[.agg zCh, .int .i64 1]) ∧ Below W.heap.size W w' by
          refine (hwc W hb).mono ?_
          rintro e w' ⟨hb2, h⟩
          rcases h with ⟨_, rfl⟩ | ⟨h, _⟩ | ⟨h, _⟩ | ⟨h, _⟩
          · exact ⟨rfl, hb2⟩
          · omega
          · omega
          · omega)
        clear hwc hm0 hse
        go_upto_region 13 with (first
          | (go_at_call 13; (with_reducible refine HKY.out.mono ?_); rintro e W7 ⟨rfl, hb⟩; have HB7 := Lib.hid (HB6.out.trans (hb.mono HB6.out.size)); have HWW := Lib.hid (HW1.out W7 HB7.out); clear hb)
          | (refine wpList_valG (by kernel_rfl) (.agg (vb nB)) (by exact run_built _ 57 [(0, .int .u8 77)] _ HBN.out #[(0, .const (.int .u8 77))] rfl (by kernel_rfl)) ?_)
          | (go_at_call 21; (refine HWW.out.mono ?_); rintro e W8 ⟨rfl, hb⟩; have HB8 := Lib.hid (HB7.out.trans (hb.mono HB7.out.size)); clear hb)
          | (refine wpList_store_rowTo rfl 52 (.tmp 14) (.tmp 78) rfl rfl W8.heap.size zCh rfl rfl 52 zCh (by exact heap_alloc_new _ _) (chSz ..) rfl (ch_all ..) ?_))
        obtain ⟨Y, hY⟩ : ∃ Y, Y = (W8.alloc (Obj.cells zCh 52)).setRow W8.heap.size zCh := ⟨_, rfl⟩
        have hnr := new_rowP W8 52 zCh zCh
        rw [← hY] at hnr ⊢
        have HBY := Lib.hid (HB8.out.trans (hnr.2.mono HB8.out.size))
        have HXC := Lib.hid hnr.1
        have HRMY := Lib.hid (HRMO.out Y HBY.out)
        have c43 : Y.cell? ⟨W8.heap.size, 43, none⟩ = some (.slice none 0 0) := (hnr.1.cell 43).trans rfl
        have hlt8 : W8.heap.size < Y.heap.size := hnr.1.lt
        clear hnr hY
        obtain ⟨g14, hg14⟩ : ∃ g, g = W8.heap.size := ⟨_, rfl⟩
        rw [← hg14] at c43 hlt8 ⊢
        have HLG := Lib.hid hlt8
        clear hg14 hlt8
        go_wp2_with (first
          | (go_at_call 19; (with_reducible refine HRMY.out.mono ?_); rintro e X ⟨v, rfl, ho, hb⟩; obtain ⟨Am, cm, rfl, _, _, hrm⟩ := ho.rd; have HBX := Lib.hid (HBY.out.trans (hb.mono HBY.out.size)); have HRX := Lib.hid (show RdP X X.heap.size Am M from hrm); have cX : X.cell? ⟨g14, 43, none⟩ = some (.slice none 0 0) := (hb.cell (HLG.out)).trans c43; have HAW := Lib.hid (HAWF.out X HBX.out); clear ho hb hrm)
          | (go_at_call 6; (with_reducible refine HAW.out.mono ?_); rintro e W9 ⟨rfl, hb⟩; have HB9 := Lib.hid (HBX.out.trans (hb.mono HBX.out.size)); clear hb))
        go_ret
        exact ⟨rfl, HB9.out⟩
      · have q2 : ¬ (M.length : Int) = 0 := by omega
        have q4 : (0 : Int) < (M.length : Int) := by omega
        have q5 : ((M.length : Int) == 0) = false := by rw [beq_eq_false_iff_ne]; omega
        have q6 : ¬ M = [] := fun h => hm0 (by rw [h]; rfl)
        by_cases hm32 : 32 < M.length
        · have q3 : (32 : Int) < (M.length : Int) := by omega
          have HW1 := Lib.hid (fun W (hb : Below w.heap.size w W) => show Calls Tryz.prog 21 #[.agg k2, .agg (vb nB), .string tenT, .int .u32 2, .slice C mo.length cC] W fun e w' => e = .returned (.tuple #[.agg zCh, .int .i64 3]) ∧ Below W.heap.size W w' by
            refine (hwc W hb).mono ?_
            rintro e w' ⟨hb2, h⟩
            rcases h with ⟨h, _⟩ | ⟨_, rfl⟩ | ⟨_, h, _⟩ | ⟨_, h, _⟩
            · omega
            · exact ⟨rfl, hb2⟩
            · omega
            · omega)
          clear hwc hm0 hse hm32
          go_upto_region 13 with (first
            | (go_at_call 13; (with_reducible refine HKY.out.mono ?_); rintro e W7 ⟨rfl, hb⟩; have HB7 := Lib.hid (HB6.out.trans (hb.mono HB6.out.size)); have HWW := Lib.hid (HW1.out W7 HB7.out); clear hb)
            | (refine wpList_valG (by kernel_rfl) (.agg (vb nB)) (by exact run_built _ 57 [(0, .int .u8 77)] _ HBN.out #[(0, .const (.int .u8 77))] rfl (by kernel_rfl)) ?_)
            | (go_at_call 21; (refine HWW.out.mono ?_); rintro e W8 ⟨rfl, hb⟩; have HB8 := Lib.hid (HB7.out.trans (hb.mono HB7.out.size)); clear hb)
            | (refine wpList_store_rowTo rfl 52 (.tmp 14) (.tmp 78) rfl rfl W8.heap.size zCh rfl rfl 52 zCh (by exact heap_alloc_new _ _) (chSz ..) rfl (ch_all ..) ?_))
          obtain ⟨Y, hY⟩ : ∃ Y, Y = (W8.alloc (Obj.cells zCh 52)).setRow W8.heap.size zCh := ⟨_, rfl⟩
          have hnr := new_rowP W8 52 zCh zCh
          rw [← hY] at hnr ⊢
          have HBY := Lib.hid (HB8.out.trans (hnr.2.mono HB8.out.size))
          have HXC := Lib.hid hnr.1
          have HRMY := Lib.hid (HRMO.out Y HBY.out)
          have c43 : Y.cell? ⟨W8.heap.size, 43, none⟩ = some (.slice none 0 0) := (hnr.1.cell 43).trans rfl
          have hlt8 : W8.heap.size < Y.heap.size := hnr.1.lt
          clear hnr hY
          obtain ⟨g14, hg14⟩ : ∃ g, g = W8.heap.size := ⟨_, rfl⟩
          rw [← hg14] at c43 hlt8 ⊢
          have HLG := Lib.hid hlt8
          clear hg14 hlt8
          go_wp2_with (first
            | (go_at_call 19; (with_reducible refine HRMY.out.mono ?_); rintro e X ⟨v, rfl, ho, hb⟩; obtain ⟨Am, cm, rfl, _, _, hrm⟩ := ho.rd; have HBX := Lib.hid (HBY.out.trans (hb.mono HBY.out.size)); have HRX := Lib.hid (show RdP X X.heap.size Am M from hrm); have cX : X.cell? ⟨g14, 43, none⟩ = some (.slice none 0 0) := (hb.cell (HLG.out)).trans c43; have HAW := Lib.hid (HAWF.out X HBX.out); clear ho hb hrm)
            | (go_at_call 6; (with_reducible refine HAW.out.mono ?_); rintro e W9 ⟨rfl, hb⟩; have HB9 := Lib.hid (HBX.out.trans (hb.mono HBX.out.size)); clear hb))
          go_ret
          exact ⟨rfl, HB9.out⟩
        · have q3 : ¬ (32 : Int) < (M.length : Int) := by omega
          have hcc := fun X (hb : Below w.heap.size w X) Am cm (h : RdP X X.heap.size Am M) => rcheck_c Am cm M X h (by have := HML.out; omega) (fun p hp => (HMK.out p hp).2)
          by_cases hck : chkL M = 0
          · have hse0 : sealE tenT M = 0 := by rw [hse]; exact hck
            obtain ⟨bd, hbd⟩ : ∃ bd, bd = boxL (keyE 2) nB tenT 2 M := ⟨_, rfl⟩
            have HW1 := Lib.hid (fun W (hb : Below w.heap.size w W) => show Calls Tryz.prog 21 #[.agg k2, .agg (vb nB), .string tenT, .int .u32 2, .slice C mo.length cC] W fun e w' => ∃ g' cg' b, e = .returned (.tuple #[.agg (chV 5 (.slice g' 0 cg') (.slice (some ⟨b, 0, none⟩) 1 1)), .int .i64 0]) ∧ ∃ Ab cb, Blk w' b 61 (bxV tenT 2 nB Ab bd.length cb) ∧ OwnB w' W.heap.size (.slice Ab bd.length cb) bd ∧ Below W.heap.size W w' by
              refine (hwc W hb).mono ?_
              rintro e w' ⟨hb2, h⟩
              rcases h with ⟨h, _⟩ | ⟨h, _⟩ | ⟨_, _, h, _⟩ | ⟨_, _, _, g', cg', b, e1, Ab, cb, hx, _, ho⟩
              · omega
              · omega
              · exact absurd hse0 h
              · exact ⟨g', cg', b, e1, Ab, cb, by rw [hbd]; exact hx, by rw [hbd]; exact ho, hb2⟩)
            have HCKF := Lib.hid (fun X (hb : Below w.heap.size w X) Am cm (h : RdP X X.heap.size Am M) => show Calls Tryz.prog 14 #[.slice Am M.length cm] X fun e w' => e = .returned (.int .i64 0) ∧ Below X.heap.size X w' by
              have h2 := hcc X hb Am cm h
              rw [hck] at h2
              exact h2)
            have HSEF := Lib.hid (fun U Am cm (h : RdP U U.heap.size Am M) => show Calls Tryz.prog 16 #[.agg k2, .agg (vb nB), .string tenT, .int .u32 2, .slice Am M.length cm] U fun e w' => ∃ u, e = .returned u ∧ RBox tenT 2 nB bd U.heap.size u w' ∧ Below U.heap.size U w' by
              rw [hbd, HK2.out, HNB.out]
              exact rseal16_c (keyE 2) nnB tenT 2 Am cm M U (keyE_len 2) (keyE_lt (by decide)) nnB_len nnB_lt (by decide) (by decide) h (by have := HML.out; omega) HMK.out hck)
            have hbdl : ∀ c ∈ bd, c < 256 := by rw [hbd]; exact boxL_lt5 _ _ _ _ _ hck
            have hbdn : bd.length ≤ 1000000 := by
              have := boxL_le5 (keyE 2) nB tenT 2 M hck (fun p hp => (HMK.out p hp).1)
              rw [hbd]
              omega
            have HKYF := Lib.hid (fun U => show Calls Tryz.prog 13 #[.int .u32 2] U fun en w' => en = .returned (.agg k2) ∧ Below U.heap.size U w' by
              rw [HK2.out]
              exact key29_c 2 U (by decide))
            have HBDL := Lib.hid (And.intro hbdl hbdn)
            have HNBL := Lib.hid (show nB.length = 12 ∧ ∀ c ∈ nB, c < 256 by rw [HNB.out]; exact ⟨nnB_len, nnB_lt⟩)
            clear hwc hm0 hse hm32 hcc hck hse0 hbd hbdl hbdn
            go_upto_region 13 with (first
              | (go_at_call 13; (with_reducible refine HKY.out.mono ?_); rintro e W7 ⟨rfl, hb⟩; have HB7 := Lib.hid (HB6.out.trans (hb.mono HB6.out.size)); have HWW := Lib.hid (HW1.out W7 HB7.out); clear hb)
              | (refine wpList_valG (by kernel_rfl) (.agg (vb nB)) (by exact run_built _ 57 [(0, .int .u8 77)] _ HBN.out #[(0, .const (.int .u8 77))] rfl (by kernel_rfl)) ?_)
              | (go_at_call 21; (refine HWW.out.mono ?_); rintro e W8 ⟨g', cg', b, rfl, Ab, cb, hxb, hob, hb⟩; have HXB := Lib.hid hxb; have HOB := Lib.hid hob; have HB8 := Lib.hid (HB7.out.trans (hb.mono HB7.out.size)); clear hb hxb hob)
              | (refine wpList_store_rowTo rfl 52 (.tmp 14) (.tmp 78) rfl rfl W8.heap.size (chV 5 (.slice g' 0 cg') (.slice (some ⟨b, 0, none⟩) 1 1)) rfl rfl 52 zCh (by exact heap_alloc_new _ _) (chSz ..) rfl (ch_all ..) ?_))
            obtain ⟨Y, hY⟩ : ∃ Y, Y = (W8.alloc (Obj.cells zCh 52)).setRow W8.heap.size (chV 5 (.slice g' 0 cg') (.slice (some ⟨b, 0, none⟩) 1 1)) := ⟨_, rfl⟩
            have hnr := new_rowP W8 52 zCh (chV 5 (.slice g' 0 cg') (.slice (some ⟨b, 0, none⟩) 1 1))
            rw [← hY] at hnr ⊢
            have HBY := Lib.hid (HB8.out.trans (hnr.2.mono HB8.out.size))
            have HXC := Lib.hid hnr.1
            have HRMY := Lib.hid (HRMO.out Y HBY.out)
            have c43 : Y.cell? ⟨W8.heap.size, 43, none⟩ = some (.slice (some ⟨b, 0, none⟩) 1 1) := (hnr.1.cell 43).trans rfl
            have c42 : Y.cell? ⟨W8.heap.size, 42, none⟩ = some (.slice g' 0 cg') := (hnr.1.cell 42).trans rfl
            have c00 : Y.cell? ⟨W8.heap.size, 0, none⟩ = some (.int .i64 5) := (hnr.1.cell 0).trans rfl
            have HXY := Lib.hid (HXB.out.below hnr.2 HXB.out.lt)
            have HOY := Lib.hid (HOB.out.next hnr.2)
            have hlt8 : W8.heap.size < Y.heap.size := hnr.1.lt
            clear hnr hY
            obtain ⟨g14, hg14⟩ : ∃ g, g = W8.heap.size := ⟨_, rfl⟩
            rw [← hg14] at c43 c42 c00 hlt8 ⊢
            have HLG := Lib.hid hlt8
            clear hg14 hlt8
            go_upto_region 21 with (first
              | (go_at_call 19; (with_reducible refine HRMY.out.mono ?_); rintro e X ⟨v, rfl, ho, hb⟩; obtain ⟨Am, cm, rfl, _, _, hrm⟩ := ho.rd; have HBX := Lib.hid (HBY.out.trans (hb.mono HBY.out.size)); have HYX := Lib.hid hb; have HRX := Lib.hid (show RdP X X.heap.size Am M from hrm); have HC1 := Lib.hid (HCKF.out X HBX.out Am cm HRX.out); clear ho hb hrm HRMY)
              | (go_at_call 14; (with_reducible refine HC1.out.mono ?_); rintro e X2 ⟨rfl, hb⟩; have HBX2 := Lib.hid (HBX.out.trans (hb.mono HBX.out.size)); have HYX2 := Lib.hid (HYX.out.trans (hb.mono HYX.out.size)); have HRX2 := Lib.hid (show RdP X2 X2.heap.size Am M from (Rd.below (show Rd X X.heap.size Am (pcs M) from HRX.out) hb).more hb.size); clear hb HC1))
            have HX2 := Lib.hid (HXY.out.below HYX2.out HXY.out.lt)
            have HO2 := Lib.hid (HOY.out.next HYX2.out)
            have hlz : g14 < X2.heap.size := Nat.lt_of_lt_of_le HLG.out HYX2.out.size
            have z43 : ∀ z : Ext X2, z.wd.cell? ⟨g14, 43, none⟩ = some (.slice (some ⟨b, 0, none⟩) 1 1) := fun z => (z.bel.cell hlz).trans ((HYX2.out.cell HLG.out).trans c43)
            have z42 : ∀ z : Ext X2, z.wd.cell? ⟨g14, 42, none⟩ = some (.slice g' 0 cg') := fun z => (z.bel.cell hlz).trans ((HYX2.out.cell HLG.out).trans c42)
            have z00 : ∀ z : Ext X2, z.wd.cell? ⟨g14, 0, none⟩ = some (.int .i64 5) := fun z => (z.bel.cell hlz).trans ((HYX2.out.cell HLG.out).trans c00)
            have HAW := Lib.hid (fun W (hb : Below X2.heap.size X2 W) => HAWF.out W (HBX2.out.trans (hb.mono HBX2.out.size)))
            have HBI := Lib.hid (show (Tryz.prog.info? 61).map (·.size) = some (bxV tenT 2 nB Ab bd.length cb).size from bxSz _ _ _ _ _ HNBL.out.1)
            have HSM := Lib.hid (fun W A5 c5 (hA : Rd W W.heap.size Ab (byt bd)) (h5 : Rd W W.heap.size A5 (byt bd)) => show Calls Tryz.prog 15 #[.agg (bxV tenT 2 nB Ab bd.length cb), .agg (bxV tenT 2 nB A5 bd.length c5)] W fun e w' => e = .returned (.bool true) ∧ Below W.heap.size W w' by
              have h := rsame16_c tenT tenT 2 2 nB nB bd bd Ab A5 cb c5 W HNBL.out.1 HNBL.out.1 HNBL.out.2 HNBL.out.2 hA h5 HBDL.out.1 HBDL.out.1 HBDL.out.2 HBDL.out.2
              rw [sameBx_self] at h
              exact h)
            have HRA2 := Lib.hid (show Rd X2 X2.heap.size Ab (byt bd) by
              obtain ⟨A9, c9, e9, _, _, r9⟩ := HO2.out.rd
              injection e9 with e9a _ _
              rw [e9a]; exact r9)
            clear c43 c42 c00 hlz HXY HOY HXB HOB HAWF HCKF HB8 HB7 HWW HW1 HKY HBX HRX HYX HXC HBY
            refine wp_region_loud X2 [142] (fun _ u W => RBox tenT 2 nB bd X2.heap.size u W) (by kernel_rfl) (by kernel_rfl) (by kernel_rfl) (by kernel_rfl) (fun k u w1 w2 h hb => h.next hb) (Below.refl _ _).drew ?_
            repeat (first
              | (refine wpLoud_loadB rfl rfl 61 (.tmp 137) rfl b 0 rfl (bxV tenT 2 nB Ab bd.length cb) _ (fun z => rangeAt_blk (HX2.out.below z.bel HX2.out.lt)) Tryz.underlying61 rfl (by rw [Array.length_toList]; exact HBI.out) _ (by simp only [Act.put, List.setIfInBounds_toArray, List.set_cons_succ, List.set_cons_zero]; rfl) ?_)
              | (refine wpLoud_call 139 rfl [] (.agg k2) 13 (fun g => #[.int .u32 2]) rfl (fun _ _ h => by cases h) rfl (fun g w => by kernel_rfl) (fun g y hg => by
                  refine (HKYF.out y.wd).mono ?_
                  rintro e w' ⟨rfl, hb⟩
                  exact ⟨_, rfl, hb, rfl⟩) _ (by simp only [Act.put, List.setIfInBounds_toArray, List.set_cons_succ, List.set_cons_zero]; rfl) ?_)
              | (refine wpLoud_valDP 140 rfl rfl (by kernel_rfl) (fun _ _ h => by cases h) (.agg (vb nB)) (fun x => by exact run_built _ 57 [(0, .int .u8 77)] _ HBN.out #[(0, .const (.int .u8 77))] rfl (by kernel_rfl)) _ (by simp only [Act.put, List.setIfInBounds_toArray, List.set_cons_succ, List.set_cons_zero]; rfl) ?_)
              | (refine wpLoud_call 142 rfl [] tok 16 (fun g => #[.agg k2, .agg (vb nB), .string tenT, .int .u32 2, .slice Am M.length cm]) rfl (fun _ _ h => by cases h) rfl (fun g w => by kernel_rfl) (fun g y hg => by
                  refine (HSEF.out y.wd Am cm ((Rd.below (show Rd X2 X2.heap.size Am (pcs M) from HRX2.out) y.bel).more y.bel.size)).mono ?_
                  rintro e w' ⟨u, rfl, ⟨A5, c5, e5, ho⟩, hb⟩
                  exact ⟨u, rfl, hb, ⟨A5, c5, e5, own_base_le ho y.bel.size⟩⟩) _ (by simp only [Act.put, List.setIfInBounds_toArray, List.set_cons_succ, List.set_cons_zero]; rfl) ?_)
              | (refine wpLoud_call 143 rfl [142] (.bool true) 15 (fun g => #[.agg (bxV tenT 2 nB Ab bd.length cb), g 142]) rfl (fun _ _ h => by cases h) rfl (fun g w => by kernel_rfl) (fun g y hg => by
                  obtain ⟨A5, c5, e5, ho⟩ : RBox tenT 2 nB bd X2.heap.size (g 142) y.wd := hg 142 (by simp)
                  obtain ⟨A6, c6, e6, _, _, r6⟩ := ho.rd
                  injection e6 with e6a _ e6c
                  subst e6a e6c
                  show Calls _ _ #[_, g 142] _ _
                  rw [e5]
                  refine (HSM.out y.wd A5 c5 (Rd.ups (Rd.below HRA2.out y.bel) y.bel.size) r6).mono ?_
                  rintro e w' ⟨rfl, hb⟩
                  exact ⟨_, rfl, hb, rfl⟩) _ (by simp only [Act.put, List.setIfInBounds_toArray, List.set_cons_succ, List.set_cons_zero]; rfl) ?_)
              | (refine wpLoud_call 146 rfl [] (.bool true) 6 (fun g => #[]) rfl (fun _ _ h => by cases h) rfl (fun g w => by kernel_rfl) (fun g y hg => by
                  refine (HAW.out y.wd y.bel).mono ?_
                  rintro e w' ⟨rfl, hb⟩
                  exact ⟨_, rfl, hb, rfl⟩) _ (by simp only [Act.put, List.setIfInBounds_toArray, List.set_cons_succ, List.set_cons_zero]; rfl) ?_)
              | (refine wpLoud_valDP 125 rfl rfl (by kernel_rfl) (fun _ _ h => by cases h) (.int .i64 0) (fun x => by kernel_rfl) _ (by simp only [Act.put, List.setIfInBounds_toArray, List.set_cons_succ, List.set_cons_zero]; rfl) ?_)
              | (refine wpLoud_valDP 131 rfl rfl (by kernel_rfl) (fun _ _ h => by cases h) (.int .i64 1) (fun x => by kernel_rfl) _ (by simp only [Act.put, List.setIfInBounds_toArray, List.set_cons_succ, List.set_cons_zero]; rfl) ?_)
              | (refine wpLoud_plain rfl rfl rfl ?_; intro K hK; go_big_quiet_op; go_big_quiet_on))
            refine wpLoud_end [] (by rfl) ?_
            intro gg z hg
            have HBZ9 := Lib.hid (HBX2.out.trans (z.bel.mono HBX2.out.size))
            generalize z.wd = V at *
            simp only [fill, Act.put, List.setIfInBounds_toArray, List.set_cons_succ, List.set_cons_zero]
            generalize gg 142 = x142 at *
            go_wp2_with fail
            go_ret
            exact ⟨rfl, HBZ9.out⟩
          · skip
            have key : ∃ kk : Int, (kk = 1 ∨ kk = 3) ∧ ((chkL M : Nat) : Int) = kk := by
              rcases chk_vals M with h | h | h
              · exact absurd h hck
              · exact ⟨1, .inl rfl, by rw [h]; rfl⟩
              · exact ⟨3, .inr rfl, by rw [h]; rfl⟩
            obtain ⟨kk, hkk, hke⟩ := key
            have s1 : (kk != 0) = true := by rcases hkk with rfl | rfl <;> rfl
            have s2 : ¬ kk = 0 := by rcases hkk with rfl | rfl <;> decide
            have HW1 := Lib.hid (fun W (hb : Below w.heap.size w W) => show Calls Tryz.prog 21 #[.agg k2, .agg (vb nB), .string tenT, .int .u32 2, .slice C mo.length cC] W fun e w' => e = .returned (.tuple #[.agg zCh, .int .i64 kk]) ∧ Below W.heap.size W w' by
              refine (hwc W hb).mono ?_
              rintro e w' ⟨hb2, h⟩
              rcases h with ⟨h, _⟩ | ⟨h, _⟩ | ⟨_, _, _, rfl⟩ | ⟨_, _, h, _⟩
              · omega
              · omega
              · exact ⟨by rw [hse, hke], hb2⟩
              · rw [hse] at h; exact absurd h hck)
            have HCKF := Lib.hid (fun X (hb : Below w.heap.size w X) Am cm (h : RdP X X.heap.size Am M) => show Calls Tryz.prog 14 #[.slice Am M.length cm] X fun e w' => e = .returned (.int .i64 kk) ∧ Below X.heap.size X w' by
              have h2 := hcc X hb Am cm h
              rw [hke] at h2
              exact h2)
            clear hwc hm0 hse hm32 hcc hck hkk hke
            go_upto_region 13 with (first
              | (go_at_call 13; (with_reducible refine HKY.out.mono ?_); rintro e W7 ⟨rfl, hb⟩; have HB7 := Lib.hid (HB6.out.trans (hb.mono HB6.out.size)); have HWW := Lib.hid (HW1.out W7 HB7.out); clear hb)
              | (refine wpList_valG (by kernel_rfl) (.agg (vb nB)) (by exact run_built _ 57 [(0, .int .u8 77)] _ HBN.out #[(0, .const (.int .u8 77))] rfl (by kernel_rfl)) ?_)
              | (go_at_call 21; (refine HWW.out.mono ?_); rintro e W8 ⟨rfl, hb⟩; have HB8 := Lib.hid (HB7.out.trans (hb.mono HB7.out.size)); clear hb)
              | (refine wpList_store_rowTo rfl 52 (.tmp 14) (.tmp 78) rfl rfl W8.heap.size zCh rfl rfl 52 zCh (by exact heap_alloc_new _ _) (chSz ..) rfl (ch_all ..) ?_))
            obtain ⟨Y, hY⟩ : ∃ Y, Y = (W8.alloc (Obj.cells zCh 52)).setRow W8.heap.size zCh := ⟨_, rfl⟩
            have hnr := new_rowP W8 52 zCh zCh
            rw [← hY] at hnr ⊢
            have HBY := Lib.hid (HB8.out.trans (hnr.2.mono HB8.out.size))
            have HXC := Lib.hid hnr.1
            have HRMY := Lib.hid (HRMO.out Y HBY.out)
            have c43 : Y.cell? ⟨W8.heap.size, 43, none⟩ = some (.slice none 0 0) := (hnr.1.cell 43).trans rfl
            have hlt8 : W8.heap.size < Y.heap.size := hnr.1.lt
            clear hnr hY
            obtain ⟨g14, hg14⟩ : ∃ g, g = W8.heap.size := ⟨_, rfl⟩
            rw [← hg14] at c43 hlt8 ⊢
            have HLG := Lib.hid hlt8
            clear hg14 hlt8
            go_wp2_with (first
              | (go_at_call 19; (with_reducible refine HRMY.out.mono ?_); rintro e X ⟨v, rfl, ho, hb⟩; obtain ⟨Am, cm, rfl, _, _, hrm⟩ := ho.rd; have HBX := Lib.hid (HBY.out.trans (hb.mono HBY.out.size)); have HRX := Lib.hid (show RdP X X.heap.size Am M from hrm); have HC1 := Lib.hid (HCKF.out X HBX.out Am cm HRX.out); clear ho hb hrm HRMY)
              | (go_at_call 14; (with_reducible refine HC1.out.mono ?_); rintro e X2 ⟨rfl, hb⟩; have HBX2 := Lib.hid (HBX.out.trans (hb.mono HBX.out.size)); have HC2 := Lib.hid (HCKF.out X2 HBX2.out Am cm ((Rd.below (show Rd X X.heap.size Am (pcs M) from HRX.out) hb).more hb.size)); clear hb HC1)
              | (go_at_call 14; (with_reducible refine HC2.out.mono ?_); rintro e X3 ⟨rfl, hb⟩; have HBX3 := Lib.hid (HBX2.out.trans (hb.mono HBX2.out.size)); have HAW := Lib.hid (HAWF.out X3 HBX3.out); clear hb HC2)
              | (go_at_call 6; (with_reducible refine HAW.out.mono ?_); rintro e W9 ⟨rfl, hb⟩; have HB9 := Lib.hid (HBX3.out.trans (hb.mono HBX3.out.size)); clear hb))
            go_ret
            exact ⟨rfl, HB9.out⟩
end Go.Proofs.YtfnhmnbcponkfaaGreatDoor
namespace Go.Proofs.YtfnhmnbcponkfaaGreatDoor
open Go Go.ChangeShapes Go.WideShapes Go.ChangeAt Go.RowKit
theorem shelfReads_reads (os : Os) {H : Type} (enc : TypeId × Value → H) : ∃ places, DataW.whole enc Tryz.prog ((World.doorLaid Tryz.prog 400 os).forCall (fun _ _ => 0) ⟨#[], #[.slice none 0 0, .slice none 0 0, .slice none 0 0], []⟩).memory Tryz.f4.params.toList Rows.shelfReadsSpec.vars false #[Value.slice none 0 0, .slice none 0 0, .slice none 0 0].toList 8 = some ([.nil, .nil, .nil], [], places) :=
  ⟨[], by kernel_rfl⟩
theorem shelfReads_lifted (os : Os) (started : os.Started) (H : Type) (enc : TypeId × Value → H) (F : Stop.Interp) :
    ReturnsInHanded {} Tryz.checked os 4 .any ((Rows.OpenSpec.upto Rows.shelfReadsSpec).preRow enc Tryz.prog Tryz.f4 Rows.shelfReadsUptoRow.domain false Rows.shelfReadsUptoRow.laid) (((Rows.OpenSpec.upto Rows.shelfReadsSpec).at F).post enc Tryz.prog Tryz.f4 false true false false) := by
  obtain ⟨places, hx⟩ := shelfReads_reads os enc
  refine liftQU started F _ (by kernel_rfl) Tryz.func4 ⟨rfl, fun H ds h => ?_⟩ rfl (of_decide_eq_true (by kernel_rfl))
    (witnessU (World.doorLaid Tryz.prog 400 os) #[.slice none 0 0, .slice none 0 0, .slice none 0 0] rfl (World.shaped_of_RefB (by kernel_rfl) (by kernel_rfl)) (by kernel_rfl)
      (OpenSpec.preRow_of_cond 8 hx (by kernel_rfl) (fun k hk => by cases hk; kernel_rfl) (by kernel_rfl) (door_met os _))) ?_
  · match ds, h with
    | [_, _, _], _ => rfl
  · intro W base args ds ps hq hbk hval hA hlt
    rw [Tryz.params4] at hA hval
    obtain ⟨v0, vs0, d0, ds0, p0, q0, hargs, rfl, rfl, h0, r0⟩ := trodAll_cons hA
    obtain ⟨v1, vs1, d1, ds1, p1, q1, rfl, rfl, rfl, h1, r1⟩ := trodAll_cons r0
    obtain ⟨v2, vs2, d2, ds2, p2, q2, rfl, rfl, rfl, h2, r2⟩ := trodAll_cons r1
    obtain ⟨rfl, rfl, rfl⟩ := trodAll_nil r2
    obtain rfl : args = #[v0, v1, v2] := by cases args; simp_all
    obtain ⟨A0, l0, cap0, rfl, hc0, hm0, hl0, hr0⟩ := open_groups (hval 0 22 v0 rfl rfl) h0
    obtain ⟨A1, l1, cap1, rfl, hl1, hr1, hm1⟩ := open_bytes (hval 1 23 v1 rfl rfl) h1
    obtain ⟨A2, l2, cap2, rfl, hc2, hm2, hl2, hr2⟩ := open_pieces (hval 2 31 v2 rfl rfl) h2
    have hb0 := row_bulk Tryz.underlying22 h0
    have hbd : Rows.uptoBulk d0 ≤ Rows.uptoBulkAll [d0, d1, d2] := bulk_part (by simp)
    exact reads29l_c A0 cap0 l0 A1 cap1 l1 A2 cap2 l2 W hr0 (by omega) hl0 hr1 hl1 hm1 hr2 hc2 hm2 hl2 hq
theorem shelfReads_row : Rows.ShelfReadsUptoSaid :=
  OpenClaim.holds_of_cond 4 Tryz.f4 rfl rfl rfl rfl rfl rfl rfl ⟨rfl, rfl, rfl, rfl, rfl⟩ rfl rfl rfl rfl rfl (by kernel_rfl) Tryz.func4 (by kernel_rfl)
    (of_decide_eq_true (by kernel_rfl)) (by unfold Func.isWrapper; rw [if_neg (by decide +kernel)]; exact ⟨rfl, rfl⟩)
    (fun os started H enc _ F => by rw [OpenClaim.pre_eq_preRow]; exact shelfReads_lifted os started H enc F)
theorem shelfReadsUpto_holds : Rows.ShelfReadsUptoCardSaid :=
  Claim7.holds_tied_plain_at .later [] [.data] true (true, "60a5121220dda41f468752c168b9a479c8b8da9b6316415510bce16d1c6624df") false
    shelfReads_row (fun _ h => by cases h) (by kernel_rfl) (fun _ h => by cases h) shelfReadsUpto_row_tie rfl ⟨rfl, rfl⟩ (by kernel_rfl) rfl
    (fun f fn hf hfn => by
      obtain rfl : f = 4 := Option.some.inj ((show Tryz.prog.funcNamed "quaestor/quaestorlaw29.ShelfReads" = some 4 by kernel_rfl).symm.trans hf) |>.symm
      obtain rfl : fn = Tryz.f4 := (Option.some.inj (Tryz.func4.symm.trans hfn)).symm
      exact ⟨by kernel_rfl, fun j t ht => by
        rw [Tryz.params4] at ht
        have hm : t ∈ [22, 23, 31] := by simpa using Array.mem_of_getElem? ht
        have hall : ([22, 23, 31].all fun u => !Tryz.prog.wantsStandIn u) = true := by kernel_rfl
        exact (show Tryz.prog.wantsStandIn t = false by simpa using List.all_eq_true.1 hall t hm)⟩)
    (by kernel_rfl)
#print axioms shelfReadsUpto_holds
end Go.Proofs.YtfnhmnbcponkfaaGreatDoor
