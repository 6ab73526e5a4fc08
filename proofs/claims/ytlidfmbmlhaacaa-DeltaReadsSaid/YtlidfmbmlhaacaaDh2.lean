/- Contract: the form of pieces. -/
import Derived.Test.YtlidfmbmlhaacaaDh1
namespace Go.Proofs.Ytlidfmbmlhaacaa
open Go.RowKit
set_option linter.unusedVariables false
set_option linter.unusedSimpArgs false
/-- the groups, of any pieces -/
theorem groupsAny_c (A : Option Addr) (c : Nat) (l : List Pc) (w : World) (hr : RdP w w.heap.size A l) (hc : l.length ≤ c) (h1 : l.length ≤ 100000) :
    ∃ ad, (0 < l.length → A = some ad ∧ AtA w ad (pcs l) ∧ ad.block < w.heap.size) ∧ Calls Try.prog 33 #[.slice A l.length c] w fun e w' => ∃ v, e = .returned v ∧ OwnG w' w.heap.size v (gv ad c 0 (gls l)) ∧ Below w.heap.size w w' := by
  rcases Nat.eq_zero_or_pos l.length with h0 | h0
  · obtain rfl : l = [] := List.eq_nil_of_length_eq_zero h0
    refine ⟨⟨0, 0, none⟩, fun h => by simp at h, ?_⟩
    refine (groups0_c A c w).mono ?_
    rintro e w' ⟨rfl, hb⟩
    exact ⟨_, rfl, by rw [gls_nil]; exact ⟨rfl, .inl ⟨rfl, rfl⟩⟩, hb⟩
  · obtain ⟨ad, rfl, hab, hat⟩ := hr.open_ h0
    exact ⟨ad, fun _ => ⟨rfl, hat, hab⟩, groups_c ad c l w hat hab hc h0 h1⟩
theorem gls_len_le : ∀ l : List Pc, (gls l).length ≤ l.length := grps_ind (by rw [gls_nil]; exact Nat.le_refl _) fun p l ih => by
  rw [gls_cons, List.length_cons, List.length_cons]
  rw [List.length_drop] at ih
  omega
theorem AtA.drop_ {w : World} {ad : Addr} {l : List Pc} (h : AtA w ad (pcs l)) (off m : Nat) : AtA w (ad.add (off * 5)) (pcs ((l.drop off).take m)) := by
  rw [pcs_take, pcs_drop]
  exact h.drop (off * 5) (m * 5)
set_option maxRecDepth 100000 in
set_option maxHeartbeats 4000000 in
theorem form_c (A : Option Addr) (c : Nat) (l : List Pc) (w : World) (hr : RdP w w.heap.size A l) (hc : l.length ≤ c) (h1 : l.length ≤ 100000) (hk : ∀ p ∈ l, PcOk p ∧ p.s.size ≤ 1000000) (hF : (formP l).length ≤ 100000) :
    Calls Try.prog 31 #[.slice A l.length c] w (Gives (formP l) w) := by
  obtain ⟨ad, had, hgc⟩ := groupsAny_c A c l w hr hc h1
  have HAD := Lib.hid had
  have HGC := Lib.hid hgc
  have hgn := gls_len_le l
  have HGV := Lib.hid (gv_len ad c 0 (gls l))
  have HGA := Lib.hid (fun k (h : k < (gls l).length) => gv_at ad c 0 (gls l) k h)
  have HLP := Lib.hid (fun k (h : k < (gls l).length) => lenG_pos l k h)
  have HOL := Lib.hid (fun k (h : k < (gls l).length) => offG_lt l k h)
  have HGR := Lib.hid (fun k (h : k < (gls l).length) => grpG l k h)
  have HK := Lib.hid hk
  have hFE : formP l = sh (gls l).length ++ ((grps l).map putL).flatten := by unfold formP; rw [grps_len]
  have HFE := Lib.hid hFE
  obtain ⟨F, hFF⟩ : ∃ F, F = formP l := ⟨_, rfl⟩
  rw [← hFF] at hF HFE ⊢
  have HFB := Lib.hid hF
  have HP0 := Lib.hid (show ∀ W, Calls Try.prog 46 #[.slice none 0 0, .int .u64 ((gls l).length : Nat)] W (Gives (sh (gls l).length) W) from fun W => by
    have h := putSh_c 0 none 0 [] (gls l).length W (fun h => absurd rfl h) (by omega) (by decide)
    rw [List.nil_append] at h
    exact h)
  have f2 : IntKind.u64.wrap ((gls l).length : Int) = ((gls l).length : Int) := by rw [IntKind.wrap_u64]; omega
  clear hr had hgc hk hFE hFF hF
  go_enter Try.func31, Try.ntmps31
  go_upto_region 3 with (first
    | (go_at_call 33; (refine HGC.out.mono ?_); rintro e W1 ⟨v, rfl, ho, hb⟩; obtain ⟨A2, c2, rfl, _, _, r2⟩ := gv_rd ho; have HB := Lib.hid hb; have HR2 := Lib.hid r2; rw [HGV.out]; clear ho hb r2)
    | (go_at_call 46; (refine (HP0.out W1).mono ?_); rintro e W2 ⟨v2, rfl, ho, hb⟩; have HO2 := Lib.hid (show OwnB W2 w.heap.size v2 (sh (gls l).length) from own_base_le ho HB.out.size); have HR22 := Lib.hid (HR2.out.below hb); have HB2 := Lib.hid (HB.out.trans (hb.mono HB.out.size)); have HS12 := Lib.hid hb.size; clear ho hb))
  go_wp2_with fail
  go_loopw [4, 15] (fun bv i wr => ∃ (k : Nat) (pre : List Nat), k ≤ (gls l).length ∧ i = .int .i64 k ∧ F = pre ++ (((grps l).drop k).map putL).flatten ∧ OwnB wr w.heap.size bv pre ∧ Below w.heap.size w wr ∧ Rd wr W1.heap.size A2 (gv ad c 0 (gls l)) ∧ W1.heap.size ≤ wr.heap.size) (fun _ i _ => (gls l).length - (intOf i).toNat)
  case atStart => exact ⟨0, _, Nat.zero_le _, rfl, HFE.out, HO2.out, HB2.out, HR22.out, HS12.out⟩
  case round =>
    rename World => wr
    obtain ⟨k, pre, hk, rfl, hfp, ho, hb, hrd, hsz⟩ := hrel
    have HFP := Lib.hid hfp
    have HO := Lib.hid ho
    have HBW := Lib.hid hb
    have HRD := Lib.hid hrd
    have HSZ := Lib.hid hsz
    have hpl : pre.length ≤ 100000 := by have h := congrArg List.length hfp; rw [List.length_append] at h; have := HFB.out; omega
    clear hfp ho hb hrd hsz HO2 HB2 HR22
    by_cases hlt : k < (gls l).length
    · have p1 : (k : Int) < ((gls l).length : Int) := by omega
      have hga := HGA.out k hlt
      rw [Nat.zero_add] at hga
      have hrr := HRD.out
      obtain ⟨a2, rfl, _, _⟩ := hrr (by intro h; rw [h] at hga; simp at hga)
      have e0r := rdG_cell HRD.out k hga
      have hol := HOL.out k hlt
      have hlp := HLP.out k hlt
      obtain ⟨rfl, hat, hab⟩ := HAD.out (by omega)
      have e0 : wr.cell? (a2.add k) = some (.slice (some (ad.add (offG l k * 5))) (lenG l k) (c - offG l k)) := e0r
      have HAW := Lib.hid ((hat.below HBW.out hab).drop_ (offG l k) (lenG l k))
      have HGK := Lib.hid (show (grps l).drop k = (l.drop (offG l k)).take (lenG l k) :: (grps l).drop (k + 1) by
        have hkl : k < (grps l).length := by rw [grps_len]; exact hlt
        rw [List.drop_eq_getElem_cons hkl, ← HGR.out k hlt]
        simp [List.getD_eq_getElem?_getD, hkl])
      obtain ⟨g, hg⟩ : ∃ g, g = (l.drop (offG l k)).take (lenG l k) := ⟨_, rfl⟩
      rw [← hg] at HAW HGK
      have hgl : g.length = lenG l k := by rw [hg, List.length_take, List.length_drop]; omega
      have hgm : ∀ p ∈ g, PcOk p ∧ p.s.size ≤ 1000000 := fun p hp => HK.out p (by rw [hg] at hp; exact List.mem_of_mem_drop (List.mem_of_mem_take hp))
      have habw : (ad.add (offG l k * 5)).block < wr.heap.size := by rw [add_block]; exact Nat.lt_of_lt_of_le hab HBW.out.size
      obtain ⟨A7, c7, rfl, _, _, _⟩ := HO.out.rd
      have HPG := Lib.hid (putG_c wr.heap.size A7 c7 (c - offG l k) pre (ad.add (offG l k * 5)) g wr HO.out.rdAt (Nat.le_refl _) hpl HAW.out habw (by omega) (by omega) hgm)
      rw [hgl] at HPG
      clear hga e0r hat hab hgm habw hgl hg hrr hol
      generalize lenG l k = m at *
      generalize c - offG l k = cc at *
      generalize ad.add (offG l k * 5) = a' at *
      go_wp2_with (go_at_call 47; (refine HPG.out.mono ?_); rintro e W5 ⟨v5, rfl, ho5, hb5⟩; have HO5 := Lib.hid (show OwnB W5 w.heap.size v5 (pre ++ putL g) from own_base_le ho5 HBW.out.size); have HB5 := Lib.hid (HBW.out.trans (hb5.mono HBW.out.size)); have HR5 := Lib.hid (HRD.out.below (hb5.mono HSZ.out)); have HS5 := Lib.hid (Nat.le_trans HSZ.out hb5.size); clear ho5 hb5)
      have HFN := Lib.hid (show F = (pre ++ putL g) ++ (((grps l).drop (k + 1)).map putL).flatten by rw [HFP.out, HGK.out, List.map_cons, List.flatten_cons, List.append_assoc])
      go_roundw
      case rel => exact ⟨k + 1, _, by omega, by go_num, HFN.out, HO5.out, HB5.out, HR5.out, HS5.out⟩
      case measure => simp only [intOf]; omega
    · obtain rfl : k = (gls l).length := by omega
      have HFIN := Lib.hid (show F = pre by rw [HFP.out, ← grps_len, List.drop_length]; simp)
      go_wp2_with fail
      refine bodyPost_ret (results_tmp rfl _ _ _) rfl ?_
      exact ⟨_, rfl, by rw [HFIN.out]; exact HO.out, HBW.out⟩
end Go.Proofs.Ytlidfmbmlhaacaa
