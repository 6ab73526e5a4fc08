/- ShelfNext returns true for any groups of pieces, epochs, epoch and horizon, where what it reads is of bulk at most 1048576. Conditions: the table of the quarters is as its initialiser lays it. -/
import Derived.Test.YtfnhmnbcponkfaaGreatDoorZ14
import Derived.Test.YtfnhmnbcponkfaaGreatDoorTie
import Derived.Test.YtfnhmnbcponkfaaGreatDoorCards
import Derived.SevenTiedAt
set_option maxRecDepth 100000
set_option linter.unusedVariables false
set_option linter.unusedSimpArgs false
set_option maxHeartbeats 32000000
namespace Go.Proofs.YtfnhmnbcponkfaaGreatDoor
open Go.RowKit
theorem grL_nn {W : World} {ad : Addr} {g : Gro3} {A : Option Addr} {c : Nat} (h : AtA W ad (grL g A c)) : AtA W ad (byt g.nn) := fun j u hu => by
 refine h j u ?_
 unfold grL
 have hj : j < (byt g.nn).length := by
  rcases Nat.lt_or_ge j (byt g.nn).length with h1 | h1
  ·exact h1
  ·rw [List.getElem?_eq_none h1] at hu; cases hu
 rw [List.getElem?_append_left hj]
 exact hu
theorem grL_12 (g : Gro3) (A : Option Addr) (c : Nat) (h : g.nn.length = 12) : (grL g A c)[12]? = some (.int .u32 (g.ep : Int)) := by
 unfold grL
 rw [List.getElem?_append_right (by simp [byt_len, h])]
 simp [byt_len, h]
theorem rdN_one {W : World} {b : Nat} {nn : List Nat} (h : Blk W b 57 (vb nn)) : RdN W (b + 1) (some ⟨b, 0, none⟩) [nn] := fun _ => ⟨_, rfl, Nat.lt_succ_self b, by
 rw [show nnC [nn] = byt nn by simp [nnC]]
 exact atA_blk h⟩
theorem rdN_two {W : World} {b : Nat} {n1 n2 : List Nat} (h : Blk W b 57 (vb n1 ++ vb n2)) : RdN W (b + 1) (some ⟨b, 0, none⟩) [n1, n2] := fun _ => ⟨_, rfl, Nat.lt_succ_self b, by
 rw [show nnC [n1, n2] = byt n1 ++ byt n2 by simp [nnC]]
 refine atA_blk (T := 57) ?_
 have e : (byt n1 ++ byt n2).toArray = vb n1 ++ vb n2 := by unfold vb; simp
 rw [e]
 exact h⟩
def TwoN (n1 n2 : List Nat) (base : Nat) (u : Value) (W : World) : Prop := ∃ b, u = .slice (some ⟨b, 0, none⟩) 2 2 ∧ Blk W b 57 (vb n1 ++ vb n2) ∧ base ≤ b ∧ b < W.heap.size
theorem TwoN.next {n1 n2 : List Nat} {base : Nat} {u : Value} {W W' : World} (h : TwoN n1 n2 base u W) (hb : Below W.heap.size W W') : TwoN n1 n2 base u W' := by
 obtain ⟨b, e, h1, h2, h3⟩ := h
 exact ⟨b, e, h1.below hb h3, h2, jH h3 hb.size⟩
def NxA (os : List Gro3) (ep : Nat) (h : Int) (w : World) (e : Ending) (w' : World) : Prop :=
 ∃ gone m is Ag cg Am cm, e = .returned (.tuple #[.slice Ag gone.length cg, .slice Am m.length cm, .bool is]) ∧ NxD os ep h gone m is ∧ RdN w' w'.heap.size Ag gone ∧ RdP w' w'.heap.size Am m ∧ m.length ≤ cm ∧ Below w.heap.size w w'
theorem NxA.mk {os : List Gro3} {ep : Nat} {h : Int} {w w' : World} {e : Ending} (gone : List (List Nat)) (m : List Pc) (is : Bool) (Ag : Option Addr) (cg : Nat) (Am : Option Addr) (cm : Nat) (he : e = .returned (.tuple #[.slice Ag gone.length cg, .slice Am m.length cm, .bool is])) (hd : NxD os ep h gone m is) (h1 : RdN w' w'.heap.size Ag gone) (h2 : RdP w' w'.heap.size Am m) (h3 : m.length ≤ cm) (hb : Below w.heap.size w w') : NxA os ep h w e w' :=
 ⟨gone, m, is, Ag, cg, Am, cm, he, hd, h1, h2, h3, hb⟩
theorem idle4N {x y z u : Value} (h : isTok x = false) (h' : isTok y = false) (h'' : isTok z = false) (h3 : isTok u = false) : (!isTok x && (!isTok y && (!isTok z && (!isTok u && true)))) = true := by rw [h, h', h'', h3]; rfl
theorem rnext_c (A : Option Addr) (c : Nat) (os : List Gro3) (ep : Nat) (h : Int) (w : World) (hr : RdO w A os) (hl : os.length ≤ 1000) (hgl : ∀ g ∈ os, g.l.length ≤ 32 ∧ ∀ p ∈ g.l, PcOk p ∧ p.s.size ≤ 9223372036854775807) :
  Calls Tryz.prog 9 #[.slice A os.length c, .int .u32 (ep : Nat), .int .i64 h] w (NxA os ep h w) := by
 obtain ⟨i0, hi0, hz0, hz1, hz2⟩ := piece_parts
 obtain ⟨ig, hig, hg0, hg1x, hg2x⟩ := parts_of nonceInfo
 have HR := Li hr
 have HGL := Li hgl
 have HBT := Li (fun (W : World) Ai ci g (hg : g ∈ os) (hri : RdP W W.heap.size Ai g.l) => rbetweenH_c Ai ci g.l h W hri (by have := (hgl g hg).1; omega) (fun p hp => ((hgl g hg).2 p hp).1))
 clear hr hgl
 go_enter Tryz.func9, Tryz.ntmps9
 go_wp2_with fail
 go_loopw [9, 6, 7, 32, 39] (fun iv u6 u7 u32 u39 wr => ∃ i : Nat, i ≤ os.length ∧ iv = .int .i64 (i : Nat) ∧ (isTok u6 = false ∧ isTok u7 = false ∧ isTok u32 = false ∧ isTok u39 = false) ∧ Hid (FreshO os ep i) ∧ Below w.heap.size w wr) (fun iv _ _ _ _ _ => os.length - (intOf iv).toNat)
 case atStart => exact ⟨0, Nat.zero_le _, rfl, ⟨rfl, rfl, rfl, rfl⟩, Li (fun j hj => absurd hj (Nat.not_lt_zero _)), jE _ _⟩
 case round =>
  rename World => wr
  obtain ⟨i, hi, rfl, htk, HF, hb⟩ := hrel
  have HTK := Li htk
  have HB := Li hb
  clear htk hb
  by_cases hlt : i < os.length
  ·have r1 : (i : Int) < (os.length : Int) := by omega
   have m1 : (i : Int) ≤ 1000 := by omega
   obtain ⟨ad, Ai, ci, rfl, hab, hat, hci, hri, hgo⟩ := (HR.out.next HB.out).at_ hlt
   have hgm := getD_memO hlt
   have HGI := Li (show ∃ g, g = os.getD i gr0 from ⟨_, rfl⟩)
   obtain ⟨g, hg⟩ := HGI.out
   have HGE := Li hg
   rw [← hg] at hat hci hri hgo hgm
   have c12 : wr.cell? ⟨(ad.add (i * 14)).block, (ad.add (i * 14)).off + 12, none⟩ = some (.int .u32 (g.ep : Int)) := hat 12 _ (grL_12 _ _ _ hgo.nl)
   have HLT := Li hlt
   have HG32 := Li (HGL.out g hgm)
   have HGM := Li hgm
   have HNL := Li hgo.nl
   by_cases hst : g.ep < ep
   ·have r2 : (g.ep : Int) < (ep : Int) := by omega
    have HST := Li hst
    have hnn := grL_nn hat
    have hlb : (ad.add (i * 14)).block < wr.heap.size := by rw [add_block]; exact hab
    have c13 : wr.cell? ⟨(ad.add (i * 14)).block, (ad.add (i * 14)).off + 13, none⟩ = some (.slice Ai g.l.length ci) := hat 13 _ (grL_13 _ _ _ hgo.nl)
    have z13 : ∀ z : Ext wr, z.wd.cell? ⟨(ad.add (i * 14)).block, (ad.add (i * 14)).off + 13, none⟩ = some (.slice Ai g.l.length ci) := fun z => (z.bel.cell (p := ⟨(ad.add (i * 14)).block, (ad.add (i * 14)).off + 13, none⟩) hlb).trans c13
    have HNA := Li (fun (W : World) (h : ∃ x : Ext wr, W = x.wd) => show AtA W (ad.add (i * 14)) (byt g.nn) by
     obtain ⟨x, rfl⟩ := h
     exact hnn.below x.bel hlb)
    have HNNL := Li (show (Tryz.prog.info? 57).map (·.size) = some (byt g.nn).length by rw [byt_len, HNL.out]; kernel_rfl)
    have HBTI := Li (fun (W : World) (hb : Below wr.heap.size wr W) => HBT.out W Ai ci g HGM.out ((Rd.below (show Rd wr wr.heap.size Ai (pcs g.l) from hri) hb).more hb.size))
    have hbsz : (vb g.nn).size = 12 := by rw [vb_size, HNL.out]
    have HBSZ := Li hbsz
    clear hat hci hri hgo hgm hab hlb hnn hlt hst hg HGI hi c13 hbsz
    obtain ⟨nn, hnn⟩ : ∃ nn, nn = g.nn := ⟨_, rfl⟩
    have HNN := Li hnn
    rw [← hnn] at HNA HNNL HBSZ
    clear hnn
    obtain ⟨L, hL⟩ : ∃ L, L = g.l := ⟨_, rfl⟩
    have HL := Li hL
    rw [← hL] at z13 HBTI
    clear hL
    obtain ⟨KP, hK⟩ : ∃ KP, KP = keptL h L := ⟨_, rfl⟩
    have HK := Li hK
    rw [← hK] at HBTI
    clear hK
    go_upto_region 5 with fail
    refine wp_region_loud wr [32, 39, 6, 7] (fun kk u W => if kk = 32 ∨ kk = 6 then OneN nn wr.heap.size u W else OwnP W wr.heap.size u KP) (by kernel_rfl) (by kernel_rfl) (by kernel_rfl) (by exact idle4N HTK.out.2.2.1 HTK.out.2.2.2 HTK.out.1 HTK.out.2.1) (fun kk u w1 w2 h hb => by
     by_cases h33 : kk = 32 ∨ kk = 6
     ·rw [if_pos h33] at h ⊢; exact h.next hb
     ·rw [if_neg h33] at h ⊢; exact OwnP.next h hb) (jE _ _).drew ?_
    repeat (first
     | (refine wpLoud_makeG 32 rfl rfl [] rfl (fun _ _ h => by cases h) rfl (fun g x h => ⟨_, _, run_oneG Tryz.underlying30 hig hg0 hg1x (by decide) (by decide) x.wd (vb nn) HBSZ.out (.tmp 31) rfl rfl, (jE _ _).alloc (jD _) _, ⟨x.wd.heap.size, rfl, Blk.new _ _ _, x.bel.size, by simp⟩⟩) _ (by simp only [Act.put, sI, sS, sZ]; rfl) ?_)
     | (refine wpLoud_call 39 rfl [] tok 26 (fun g => #[.slice Ai L.length ci, .int .i64 h, .int .i64 9223372036854775807]) rfl (fun _ _ h => by cases h) rfl (fun g w => by kernel_rfl) (fun g y hg => by
       refine (HBTI.out y.wd y.bel).mono ?_
       rintro e w' ⟨v, rfl, ho, hb⟩
       exact ⟨v, rfl, hb, own_base_le ho y.bel.size⟩) _ (by simp only [Act.put, sI, sS, sZ]; rfl) ?_)
     | (refine wpLoud_move rfl 32 6 (.inl rfl) rfl rfl rfl rfl (fun u w h => h) _ (by simp only [Act.put, sI, sS, sZ]; rfl) ?_)
     | (refine wpLoud_move rfl 39 7 (.inl rfl) rfl rfl rfl rfl (fun u w h => h) _ (by simp only [Act.put, sI, sS, sZ]; rfl) ?_)
     | (refine wpLoud_plain rfl rfl rfl ?_; intro K hK; refine quiet_loadA 57 (.tmp 30) rfl (ad.add (i * 14)) rfl (byt nn) _ HNA.out Tryz.underlying57 rfl HNNL.out _ (by simp only [Act.put, sI, sS, sZ]; rfl) ?_; go_big_quiet_on)
     | (refine wpLoud_plain rfl rfl rfl ?_; intro K hK; go_big_quiet_op; go_big_quiet_on))
    refine wpLoud_end [32, 39, 6, 7] (by rfl) ?_
    intro gg z hg
    obtain ⟨b6, e6, hx6, _, hl6⟩ : OneN nn wr.heap.size (gg 6) z.wd := hg 6 (by simp)
    have h7 : OwnP z.wd wr.heap.size (gg 7) KP := hg 7 (by simp)
    obtain ⟨A7, c7, e7, hc7, _, r7⟩ := h7.rd
    have HR7 := Li r7
    have HC7 := Li hc7
    have HX6 := Li (And.intro hx6 hl6)
    have HBZ := Li (HB.out.trans (z.bel.mono HB.out.size))
    generalize z.wd = V at *
    simp only [fill, Act.put, sI, sS, sZ]
    rw [e6, e7]
    clear hg h7 e6 e7 r7 hc7 hx6 hl6 z13 c12
    generalize gg 32 = x32 at *
    generalize gg 39 = x39 at *
    go_wp2_with fail
    refine bodyPost_ret (results_tmp3 rfl _ _ _) rfl ?_
    refine NxA.mk [nn] KP true (some ⟨b6, 0, none⟩) 1 A7 c7 rfl ?_ ((rdN_one HX6.out.1).more HX6.out.2) HR7.out HC7.out HBZ.out
    rw [HK.out, HL.out, HNN.out, HGE.out]
    exact .stale i HLT.out HF.out (by rw [← HGE.out]; exact HST.out)
   ·have r2 : ¬ (g.ep : Int) < (ep : Int) := by omega
    have HST := Li hst
    clear hat hci hri hgo hgm hab hlt hst hg HGI hi
    go_wp2_with fail
    go_roundw
    case rel =>
     refine ⟨i + 1, HLT.out, by go_num, HTK.out, Li (fun j hj => ?_), HB.out⟩
     rcases Nat.lt_or_ge j i with h2 | h2
     ·exact HF.out j h2
     ·obtain rfl : j = i := by omega
      rw [← HGE.out]; have := HST.out; omega
    case measure => have := HLT.out; simp only [intOf]; omega
  ·obtain rfl : i = os.length := by omega
   clear hlt hi
   have ht6 := HTK.out.1
   clear HTK
   go_wp2_with fail
   go_loopw [10, 6] (fun iv u6 wr => ∃ i : Nat, i ≤ os.length ∧ iv = .int .i64 (i : Nat) ∧ isTok u6 = false ∧ Hid (LateO os h i) ∧ Below w.heap.size w wr) (fun iv _ _ => os.length - (intOf iv).toNat)
   case atStart => exact ⟨0, Nat.zero_le _, rfl, ht6, Li (fun j hj => absurd hj (Nat.not_lt_zero _)), HB.out⟩
   case round =>
    clear HB ht6
    rename World => wr
    obtain ⟨i, hi, rfl, ht6, HLA, hb⟩ := hrel
    have HT6 := Li ht6
    clear ht6
    have HB := Li hb
    clear hb
    by_cases hlt : i < os.length
    ·have r1 : (i : Int) < (os.length : Int) := by omega
     have m1 : (i : Int) ≤ 1000 := by omega
     obtain ⟨ad, Ai, ci, rfl, hab, hat, hci, hri, hgo⟩ := (HR.out.next HB.out).at_ hlt
     have hgm := getD_memO hlt
     have HGI := Li (show ∃ g, g = os.getD i gr0 from ⟨_, rfl⟩)
     obtain ⟨g, hg⟩ := HGI.out
     have HGE := Li hg
     rw [← hg] at hat hci hri hgo hgm
     have hlb : (ad.add (i * 14)).block < wr.heap.size := by rw [add_block]; exact hab
     have c13 : wr.cell? ⟨(ad.add (i * 14)).block, (ad.add (i * 14)).off + 13, none⟩ = some (.slice Ai g.l.length ci) := hat 13 _ (grL_13 _ _ _ hgo.nl)
     have HC13 := Li (fun (W : World) (hb : Below wr.heap.size wr W) => show W.cell? ⟨(ad.add (i * 14)).block, (ad.add (i * 14)).off + 13, none⟩ = some (.slice Ai g.l.length ci) from (hb.cell (p := ⟨(ad.add (i * 14)).block, (ad.add (i * 14)).off + 13, none⟩) hlb).trans c13)
     have hnn := grL_nn hat
     have HNA := Li (fun (W : World) (hb : Below wr.heap.size wr W) => show AtA W (ad.add (i * 14)) (byt g.nn) from hnn.below hb hlb)
     have HNNL := Li (show (Tryz.prog.info? 57).map (·.size) = some (byt g.nn).length by rw [byt_len, hgo.nl]; kernel_rfl)
     have HBTI := Li (HBT.out wr Ai ci g hgm hri)
     have HBSZ := Li (show (vb g.nn).size = 12 by rw [vb_size, hgo.nl])
     have HLT := Li hlt
     have hL32 := (HGL.out g hgm).1
     have HEB := Li (earlyB_iff h g.l)
     have hkle := keptL_len h g.l
     clear hat hci hri hgo hgm hab hlb hnn hlt hg HGI hi
     obtain ⟨nn, hnn⟩ : ∃ nn, nn = g.nn := ⟨_, rfl⟩
     have HNN := Li hnn
     rw [← hnn] at HNA HNNL HBSZ
     clear hnn
     obtain ⟨L, hL⟩ : ∃ L, L = g.l := ⟨_, rfl⟩
     have HL := Li hL
     rw [← hL] at c13 HC13 HBTI hL32 HEB hkle
     clear hL
     obtain ⟨KP, hK⟩ : ∃ KP, KP = keptL h L := ⟨_, rfl⟩
     have HK := Li hK
     rw [← hK] at HBTI HEB hkle
     clear hK
     have HKL := Li (And.intro hkle hL32)
     clear hkle hL32
     go_upto_region 10 with (go_at_call 26; (with_reducible refine HBTI.out.mono ?_); rintro e W1 ⟨v, rfl, ho, hb⟩; obtain ⟨A7, c7, rfl, hc7, _, r7⟩ := ho.rd; have HB1 := Li (HB.out.trans (hb.mono HB.out.size)); have HW1 := Li hb; have HR7 := Li r7; have HC7 := Li hc7; have d13 := HC13.out W1 hb; clear ho hb r7 hc7)
     clear c13
     by_cases hkl : KP.length < L.length
     ·have r2 : (KP.length : Int) < (L.length : Int) := by omega
      have HE := Li (show earlyB h L = true by rw [HEB.out, jF hkl])
      have HNW := Li (HNA.out W1 HW1.out)
      clear hkl HEB
      go_wp2_with (first
       | (refine wpList_loadA rfl 57 (.tmp 65) rfl (ad.add (i * 14)) rfl (byt nn) _ HNW.out Tryz.underlying57 rfl HNNL.out ?_)
       | (refine wpList_valM rfl _ _ (run_oneG Tryz.underlying30 hig hg0 hg1x (by decide) (by decide) W1 (vb nn) HBSZ.out (.tmp 66) rfl rfl) ?_))
      refine bodyPost_ret (results_tmp3 rfl _ _ _) rfl ?_
      have hal : Below W1.heap.size W1 (W1.alloc (.cells (vb nn) 57)) := (jE _ _).alloc (jD _) _
      refine NxA.mk [nn] KP true (some ⟨W1.heap.size, 0, none⟩) 1 A7 c7 rfl ?_ ((rdN_one (Blk.new _ _ _)).more (by simp)) ((Rd.below (show Rd W1 W1.heap.size A7 (pcs KP) from HR7.out) hal).more hal.size) HC7.out (HB1.out.trans (hal.mono HB1.out.size))
      rw [HK.out, HL.out, HNN.out, HGE.out]
      exact .early HF.out i HLT.out HLA.out (by rw [← HGE.out, ← HL.out]; exact HE.out)
     ·have r2 : ¬ (KP.length : Int) < (L.length : Int) := by omega
      have HE := Li (show earlyB h L = false by rw [HEB.out, jG hkl])
      clear hkl HEB
      go_wp2_with fail
      go_roundw
      case rel =>
       refine ⟨i + 1, HLT.out, by go_num, HT6.out, Li (fun j hj => ?_), HB1.out⟩
       rcases Nat.lt_or_ge j i with h2 | h2
       ·exact HLA.out j h2
       ·obtain rfl : j = i := by omega
        rw [← HGE.out, ← HL.out]; exact HE.out
      case measure => have := HLT.out; simp only [intOf]; omega
    ·obtain rfl : i = os.length := by omega
     clear hlt hi
     go_wp2_with fail
     go_loopw [12, 6, 109] (fun iv u6 u109 wr => ∃ k : Nat, (k = 0 ∨ k + 1 ≤ os.length) ∧ iv = .int .i64 ((k + 1 : Nat) : Int) ∧ (isTok u6 = false ∧ isTok u109 = false) ∧ Hid (WideO os k) ∧ Below w.heap.size w wr) (fun iv _ _ _ => os.length + 1 - (intOf iv).toNat)
     case atStart => exact ⟨0, .inl rfl, rfl, ⟨HT6.out, rfl⟩, Li (fun j hj => absurd hj (Nat.not_lt_zero _)), HB.out⟩
     case round =>
      clear HB HT6
      rename World => wr
      obtain ⟨k, hk, rfl, ht6, HWI, hb⟩ := hrel
      have HT6 := Li ht6
      clear ht6
      have HB := Li hb
      have HKX := Li hk
      clear hb hk
      by_cases hlt : k + 1 < os.length
      ·have r1 : ((k + 1 : Nat) : Int) < (os.length : Int) := by omega
       have r1' : (k : Int) + 1 < (os.length : Int) := by omega
       have m1 : (k : Int) ≤ 1000 := by omega
       by_cases h4 : 4 < os.length
       ·have r4 : (4 : Int) < (os.length : Int) := by omega
        obtain ⟨ad, Aa, ca, rfl, hab, hat, hca, hra, hgo⟩ := (HR.out.next HB.out).at_ (show k < os.length by omega)
        obtain ⟨ad', Ab, cb, e2, _, hat2, hcb, hrb, hgo2⟩ := (HR.out.next HB.out).at_ hlt
        injection e2 with e2
        subst e2
        have hgm := getD_memO (show k < os.length by omega)
        have hgm2 := getD_memO hlt
        have HGI := Li (show ∃ g, g = os.getD k gr0 from ⟨_, rfl⟩)
        obtain ⟨g1, hg1⟩ := HGI.out
        have HGJ := Li (show ∃ g, g = os.getD (k + 1) gr0 from ⟨_, rfl⟩)
        obtain ⟨g2, hg2⟩ := HGJ.out
        have HG1 := Li hg1
        have HG2 := Li hg2
        rw [← hg1] at hat hca hra hgo hgm
        rw [← hg2] at hat2 hcb hrb hgo2 hgm2
        have hlb : (ad.add (k * 14)).block < wr.heap.size := by rw [add_block]; exact hab
        have hlb2 : (ad.add ((k + 1) * 14)).block < wr.heap.size := by rw [add_block]; exact hab
        have z13 : ∀ z : Ext wr, z.wd.cell? ⟨(ad.add (k * 14)).block, (ad.add (k * 14)).off + 13, none⟩ = some (.slice Aa g1.l.length ca) := fun z => (z.bel.cell (p := ⟨(ad.add (k * 14)).block, (ad.add (k * 14)).off + 13, none⟩) hlb).trans (hat 13 _ (grL_13 _ _ _ hgo.nl))
        have y13 : ∀ z : Ext wr, z.wd.cell? ⟨(ad.add ((k + 1) * 14)).block, (ad.add ((k + 1) * 14)).off + 13, none⟩ = some (.slice Ab g2.l.length cb) := fun z => (z.bel.cell (p := ⟨(ad.add ((k + 1) * 14)).block, (ad.add ((k + 1) * 14)).off + 13, none⟩) hlb2).trans (hat2 13 _ (grL_13 _ _ _ hgo2.nl))
        have hnn := grL_nn hat
        have hnn2 := grL_nn hat2
        have HNA := Li (fun (W : World) (hb : Below wr.heap.size wr W) => show AtA W (ad.add (k * 14)) (byt g1.nn) from hnn.below hb hlb)
        have HNB := Li (fun (W : World) (hb : Below wr.heap.size wr W) => show AtA W (ad.add ((k + 1) * 14)) (byt g2.nn) from hnn2.below hb hlb2)
        have HNNL := Li (show (Tryz.prog.info? 57).map (·.size) = some (byt g1.nn).length by rw [byt_len, hgo.nl]; kernel_rfl)
        have HNNM := Li (show (Tryz.prog.info? 57).map (·.size) = some (byt g2.nn).length by rw [byt_len, hgo2.nl]; kernel_rfl)
        have HBSZ := Li (show (vb g1.nn).size = 12 by rw [vb_size, hgo.nl])
        have HBSY := Li (show (vb g2.nn).size = 12 by rw [vb_size, hgo2.nl])
        have HMG := Li (fun (W : World) Ax cx (hx : RdP W W.heap.size Ax (g1.l ++ g2.l)) => rmerge_c Ax cx (g1.l ++ g2.l) W hx (by rw [jC]; have := (HGL.out g1 hgm).1; have := (HGL.out g2 hgm2).1; omega) (fun p hp => by
         rcases List.mem_append.1 hp with h | h
         ·exact (HGL.out g1 hgm).2 p h
         ·exact (HGL.out g2 hgm2).2 p h))
        have HRA := Li hra
        have HRB := Li hrb
        have HLN := Li (And.intro (HGL.out g1 hgm).1 (HGL.out g2 hgm2).1)
        have hjn : jnL os k = mergeL (g1.l ++ g2.l) := by unfold jnL; rw [← hg1, ← hg2]
        have HLT := Li hlt
        have HL4 := Li h4
        clear hat hat2 hca hcb hra hrb hgo hgo2 hgm hgm2 hab hlb hlb2 hnn hnn2 hg1 hg2 HGI HGJ h4 hlt
        obtain ⟨n1, hn1⟩ : ∃ nn, nn = g1.nn := ⟨_, rfl⟩
        obtain ⟨n2, hn2⟩ : ∃ nn, nn = g2.nn := ⟨_, rfl⟩
        have HN1 := Li hn1
        have HN2 := Li hn2
        rw [← hn1] at HNA HNNL HBSZ
        rw [← hn2] at HNB HNNM HBSY
        obtain ⟨la, hla⟩ : ∃ L, L = g1.l := ⟨_, rfl⟩
        obtain ⟨lb, hlb⟩ : ∃ L, L = g2.l := ⟨_, rfl⟩
        rw [← hla] at z13 HRA HLN HMG hjn
        rw [← hlb] at y13 HRB HLN HMG hjn
        obtain ⟨M, hM⟩ : ∃ M, M = mergeL (la ++ lb) := ⟨_, rfl⟩
        rw [← hM] at HMG hjn
        have HJN := Li hjn
        clear hn1 hn2 hla hlb hM hjn
        go_upto_region 15 with fail
        have hdr : ∃ x : Ext wr, wr.drew = x.wd := Ext.of (jE _ _).drew
        refine wp_region_held (S := fun w' => ∃ x : Ext wr, w' = x.wd) (by kernel_rfl) ?_
        show wpAnyH _ _ _ _ _ 16 _ _ wr.drew
        refine anyH_quiet 1 rfl (by kernel_rfl) (by kernel_rfl) (by kernel_rfl) (fun _ _ _ _ h => h) rfl rfl hdr ?_
        intro K hK
        conv => arg 2; whnf
        go_big_quiet_op
        try refine ⟨_, fun _ _ => rfl, ?_⟩
        go_big_quiet_on
        try simp only [Act.put, sI, sS, sZ]
        refine anyH_quiet 2 rfl (by kernel_rfl) (by kernel_rfl) (by kernel_rfl) (fun _ _ _ _ h => h) rfl rfl hdr ?_
        intro K hK
        conv => arg 2; whnf
        go_big_quiet_op
        try refine ⟨_, fun _ _ => rfl, ?_⟩
        go_big_quiet_on
        try simp only [Act.put, sI, sS, sZ]
        refine anyH_quiet 3 rfl (by kernel_rfl) (by kernel_rfl) (by kernel_rfl) (fun _ _ _ _ h => h) rfl rfl hdr ?_
        intro K hK
        conv => arg 2; whnf
        go_big_quiet_op
        try refine ⟨_, fun _ _ => rfl, ?_⟩
        go_big_quiet_on
        try simp only [Act.put, sI, sS, sZ]
        refine anyH_quiet 4 rfl (by kernel_rfl) (by kernel_rfl) (by kernel_rfl) (fun _ _ _ _ h => h) rfl rfl hdr ?_
        intro K hK
        conv => arg 2; whnf
        go_big_quiet_op
        try refine ⟨_, fun _ _ => rfl, ?_⟩
        go_big_quiet_on
        try simp only [Act.put, sI, sS, sZ]
        refine anyH_quiet 5 rfl (by kernel_rfl) (by kernel_rfl) (by kernel_rfl) (fun _ _ _ _ h => h) rfl rfl hdr ?_
        intro K hK
        conv => arg 2; whnf
        go_big_quiet_op
        try refine ⟨_, fun _ _ => rfl, ?_⟩
        go_big_quiet_on
        try simp only [Act.put, sI, sS, sZ]
        refine anyH_quiet 6 rfl (by kernel_rfl) (by kernel_rfl) (by kernel_rfl) (fun _ _ _ _ h => h) rfl rfl hdr ?_
        intro K hK
        conv => arg 2; whnf
        go_big_quiet_op
        try refine ⟨_, fun _ _ => rfl, ?_⟩
        go_big_quiet_on
        try simp only [Act.put, sI, sS, sZ]
        refine anyH_quiet 8 rfl (by kernel_rfl) (by kernel_rfl) (by kernel_rfl) (fun _ _ _ _ h => h) rfl rfl hdr ?_
        intro K hK
        conv => arg 2; whnf
        go_big_quiet_op
        try refine ⟨_, fun _ _ => rfl, ?_⟩
        go_big_quiet_on
        try simp only [Act.put, sI, sS, sZ]
        refine anyH_quiet 9 rfl (by kernel_rfl) (by kernel_rfl) (by kernel_rfl) (fun _ _ _ _ h => h) rfl rfl hdr ?_
        intro K hK
        conv => arg 2; whnf
        go_big_quiet_op
        try refine ⟨_, fun _ _ => rfl, ?_⟩
        go_big_quiet_on
        try simp only [Act.put, sI, sS, sZ]
        refine anyH_quiet 10 rfl (by kernel_rfl) (by kernel_rfl) (by kernel_rfl) (fun _ _ _ _ h => h) rfl rfl hdr ?_
        intro K hK
        conv => arg 2; whnf
        go_big_quiet_op
        try refine ⟨_, fun _ _ => rfl, ?_⟩
        go_big_quiet_on
        try simp only [Act.put, sI, sS, sZ]
        refine anyH_quiet 11 rfl (by kernel_rfl) (by kernel_rfl) (by kernel_rfl) (fun _ _ _ _ h => h) rfl rfl hdr ?_
        intro K hK
        conv => arg 2; whnf
        go_big_quiet_op
        try refine ⟨_, fun _ _ => rfl, ?_⟩
        go_big_quiet_on
        try simp only [Act.put, sI, sS, sZ]
        refine anyH_quiet 12 rfl (by kernel_rfl) (by kernel_rfl) (by kernel_rfl) (fun _ _ _ _ h => h) rfl rfl hdr ?_
        intro K hK
        conv => arg 2; whnf
        go_big_quiet_op
        try refine ⟨_, fun _ _ => rfl, ?_⟩
        go_big_quiet_on
        try simp only [Act.put, sI, sS, sZ]
        have hU : Below wr.heap.size wr wr.drew := (jE _ _).drew
        generalize wr.drew = U at *
        clear hdr
        refine anyH_op 0 (by kernel_rfl) rfl rfl ?_
        refine op_value (run_zero U rfl) _ (by conv => lhs; arg 2; whnf) ⟨Ext.of (hU.alloc hU.size _), ?_⟩
        try simp only [Act.put, sI, sS, sZ]
        obtain ⟨U0, eU0⟩ : ∃ U0, U0 = U.alloc (.cells #[] 77) := ⟨_, rfl⟩
        have hU0 : Below wr.heap.size wr U0 := by rw [eU0]; exact hU.alloc hU.size _
        have ow0 : OwnP U0 wr.heap.size (.slice (some ⟨U.heap.size, 0, none⟩) 0 0) [] := by rw [eU0]; exact own_zero U _ hU.size
        rw [← eU0]
        clear eU0
        obtain ⟨v1, U1, hrun1, hap1⟩ := run_app (P := Tryz.prog) U0 wr.heap.size 31 31 77 i0 (.agg zPc) 5 48 Tryz.underlying31 hi0 hz0 hz1 hz2 rfl (by decide) (.slice (some ⟨U.heap.size, 0, none⟩) 0 0) 0 [] ow0 wr.heap.size Aa la.length ca (pcs la) (pcs_len _) (Rd.below (show Rd wr wr.heap.size Aa (pcs la) from HRA.out) hU0) (pcs_oneCell _) (by have := HLN.out; omega) (by have := HLN.out; omega) hU0.size
        have hU1 : Below wr.heap.size wr U1 := hU0.trans (hap1.below ow0 hU0.size)
        have ow1 : OwnP U1 wr.heap.size v1 la := by
         have h1 := hap1.own
         rwa [Nat.zero_add, List.nil_append] at h1
        refine anyH_op 7 (by kernel_rfl) rfl rfl ?_
        refine op_value (op_appP rfl rfl rfl hrun1) _ (by conv => lhs; arg 2; whnf) ⟨Ext.of hU1, ?_⟩
        try simp only [Act.put, sI, sS, sZ]
        obtain ⟨v3, U3, hrun3, hap3⟩ := run_app (P := Tryz.prog) U1 wr.heap.size 31 31 77 i0 (.agg zPc) 5 48 Tryz.underlying31 hi0 hz0 hz1 hz2 rfl (by decide) v1 la.length (pcs la) ow1 wr.heap.size Ab lb.length cb (pcs lb) (pcs_len _) (Rd.below (show Rd wr wr.heap.size Ab (pcs lb) from HRB.out) hU1) (pcs_oneCell _) (by have := HLN.out; omega) (by have := HLN.out; omega) hU1.size
        have hb3 : Below wr.heap.size wr U3 := hU1.trans (hap3.below ow1 hU1.size)
        have ho3 : OwnP U3 wr.heap.size v3 (la ++ lb) := OwnP.appM (l := la) (m := lb) hap3
        refine anyH_op 13 (by kernel_rfl) rfl rfl ?_
        refine op_value (op_appP rfl rfl rfl hrun3) _ (by conv => lhs; arg 2; whnf) ⟨Ext.of hb3, ?_⟩
        try simp only [Act.put, sI, sS, sZ]
        obtain ⟨A3, c3, rfl, _, _, r3⟩ := ho3.rd
        refine anyH_op 14 (by kernel_rfl) rfl rfl ?_
        refine op_call (by kernel_rfl) _ (fun v => by conv => lhs; arg 2; whnf) ((HMG.out U3 A3 c3 r3).mono ?_)
        rintro e U4 ⟨v4, rfl, ho4, hbU4⟩
        obtain ⟨A5, c5, rfl, hc5, _, r5⟩ := ho4.rd
        have hb4 : Below wr.heap.size wr U4 := hb3.trans (hbU4.mono hb3.size)
        refine ⟨_, rfl, Ext.of hb4, ?_⟩
        try simp only [Act.put, sI, sS, sZ]
        refine anyH_quiet 15 rfl (by kernel_rfl) (by kernel_rfl) (by kernel_rfl) (fun _ _ _ _ h => h) rfl rfl (Ext.of hb4) ?_
        intro K hK
        conv => arg 2; whnf
        go_big_quiet_op
        try refine ⟨_, fun _ _ => rfl, ?_⟩
        go_big_quiet_on
        try simp only [Act.put, sI, sS, sZ]
        refine wpAnyH_done (by kernel_rfl) ?_ _
        have HR5 := Li r5
        have HC5 := Li hc5
        have HB4 := Li (HB.out.trans (hb4.mono HB.out.size))
        have HNW := Li (fun (W : World) (hb : Below U4.heap.size U4 W) => HNA.out W (hb4.trans (hb.mono hb4.size)))
        have HNX := Li (fun (W : World) (hb : Below U4.heap.size U4 W) => HNB.out W (hb4.trans (hb.mono hb4.size)))
        clear r5 hc5 hb4 hbU4 ho4 r3 ho3 hb3 hap3 hrun3 ow1 hU1 hap1 hrun1 ow0 hU0 hU z13 y13 HNA HNB HMG HRA HRB HLN
        by_cases hj : M.length ≤ 32
        ·have r5 : (M.length : Int) ≤ 32 := by omega
         have HJ := Li hj
         clear hj
         have HNA := Li (fun (W : World) (h : ∃ x : Ext U4, W = x.wd) => show AtA W (ad.add (k * 14)) (byt n1) by
          obtain ⟨x, rfl⟩ := h
          exact HNW.out _ x.bel)
         have HNB := Li (fun (W : World) (h : ∃ x : Ext U4, W = x.wd) => show AtA W (ad.add ((k + 1) * 14)) (byt n2) by
          obtain ⟨x, rfl⟩ := h
          exact HNX.out _ x.bel)
         go_upto_region 17 with fail
         refine wp_region_loud U4 [109, 6] (fun kk u W => TwoN n1 n2 U4.heap.size u W) (by kernel_rfl) (by kernel_rfl) (by kernel_rfl) (by exact idle2S HT6.out.2 HT6.out.1) (fun kk u w1 w2 h hb => h.next hb) (jE _ _).drew ?_
         repeat (first
          | (refine wpLoud_makeG 109 rfl rfl [] rfl (fun _ _ h => by cases h) rfl (fun g x h => ⟨_, _, run_twoG Tryz.underlying30 hig hg0 hg1x (by decide) (by decide) x.wd (vb n1) (vb n2) HBSZ.out HBSY.out (.tmp 103) (.tmp 108) rfl rfl rfl, (jE _ _).alloc (jD _) _, ⟨x.wd.heap.size, rfl, Blk.new _ _ _, x.bel.size, by simp⟩⟩) _ (by simp only [Act.put, sI, sS, sZ]; rfl) ?_)
          | (refine wpLoud_move rfl 109 6 (.inl rfl) rfl rfl rfl rfl (fun u w h => h) _ (by simp only [Act.put, sI, sS, sZ]; rfl) ?_)
          | (refine wpLoud_plain rfl rfl rfl ?_; intro K hK; refine quiet_loadA 57 (.tmp 102) rfl (ad.add (k * 14)) rfl (byt n1) _ HNA.out Tryz.underlying57 rfl HNNL.out _ (by simp only [Act.put, sI, sS, sZ]; rfl) ?_; go_big_quiet_on)
          | (refine wpLoud_plain rfl rfl rfl ?_; intro K hK; refine quiet_loadA 57 (.tmp 107) rfl (ad.add ((k + 1) * 14)) rfl (byt n2) _ HNB.out Tryz.underlying57 rfl HNNM.out _ (by simp only [Act.put, sI, sS, sZ]; rfl) ?_; go_big_quiet_on)
          | (refine wpLoud_plain rfl rfl rfl ?_; intro K hK; go_big_quiet_op; go_big_quiet_on))
         refine wpLoud_end [109, 6] (by rfl) ?_
         intro gg z hg
         obtain ⟨b6, e6, hx6, _, hl6⟩ : TwoN n1 n2 U4.heap.size (gg 6) z.wd := hg 6 (by simp)
         have HX6 := Li (And.intro hx6 hl6)
         have HBZ := Li (HB4.out.trans (z.bel.mono HB4.out.size))
         have HR6 := Li ((Rd.below (show Rd U4 U4.heap.size A5 (pcs M) from HR5.out) z.bel).more z.bel.size)
         generalize z.wd = V at *
         simp only [fill, Act.put, sI, sS, sZ]
         rw [e6]
         clear hg e6 hx6 hl6
         generalize gg 109 = x109 at *
         go_wp2_with fail
         refine bodyPost_ret (results_tmp3 rfl _ _ _) rfl ?_
         refine NxA.mk [n1, n2] M true (some ⟨b6, 0, none⟩) 2 A5 c5 rfl ?_ ((rdN_two HX6.out.1).more HX6.out.2) HR6.out HC5.out HBZ.out
         rw [HN1.out, HN2.out, ← HJN.out, HG1.out, HG2.out]
         exact .joint HF.out HLA.out HL4.out k HLT.out HWI.out (by rw [HJN.out]; exact HJ.out)
        ·have r5 : ¬ (M.length : Int) ≤ 32 := by omega
         have HJ := Li (show 32 < M.length by omega)
         clear hj
         go_wp2_with fail
         go_roundw
         case rel =>
          refine ⟨k + 1, .inr (by have := HLT.out; omega), by go_num, HT6.out, Li (fun j hj => ?_), HB4.out⟩
          rcases Nat.lt_or_ge j k with h2 | h2
          ·exact HWI.out j h2
          ·obtain rfl : j = k := by omega
           rw [HJN.out]; exact HJ.out
         case measure => have := HLT.out; simp only [intOf]; omega
       ·have r4 : ¬ (4 : Int) < (os.length : Int) := by omega
        have HNO := Li (show os.length ≤ 4 by omega)
        clear hlt h4
        go_wp2_with fail
        refine bodyPost_ret (results_tmp3 rfl _ _ _) rfl ?_
        exact NxA.mk [] [] false none 0 none 0 rfl (.none HF.out HLA.out (.inl HNO.out)) (fun h0 => absurd rfl h0) (fun h0 => absurd rfl h0) (jD _) HB.out
      ·have r1 : ¬ ((k + 1 : Nat) : Int) < (os.length : Int) := by omega
       have r1' : (os.length : Int) ≤ (k : Int) + 1 := by omega
       have HNO := Li (show os.length ≤ 4 ∨ WideO os (os.length - 1) by
        rcases HKX.out with h0 | h0
        ·exact .inl (by omega)
        ·right
         rw [show os.length - 1 = k by omega]
         exact HWI.out)
       clear hlt
       go_wp2_with fail
       refine bodyPost_ret (results_tmp3 rfl _ _ _) rfl ?_
       exact NxA.mk [] [] false none 0 none 0 rfl (.none HF.out HLA.out HNO.out) (fun h0 => absurd rfl h0) (fun h0 => absurd rfl h0) (jD _) HB.out
theorem run_l2N (w : World) (A : Option Addr) (n c : Nat) (B : Option Addr) (m d : Nat) {o : Oper} {ρ : Operand → Value} (x y : Operand) (ho : o.op = .buildSlice 22 2 #[(0, x), (1, y)]) (hx : ρ x = .slice A n c) (hy : ρ y = .slice B m d) :
  (execOp ρ o).run Tryz.prog w = .ok (.value (.slice (some ⟨w.heap.size, 0, none⟩) 2 2)) (w.alloc (.cells #[.slice A n c, .slice B m d] 31)) :=
 run_lists w [.slice A n c, .slice B m d] (by intro v hv; simp at hv; rcases hv with rfl | rfl <;> exact ⟨_, _, _, rfl⟩) #[(0, x), (1, y)] ho (by simp [hx, hy]) (by simp) (by simp)
theorem lists2N {W : World} {A B : Option Addr} {ca cb : Nat} {la lb : List Pc} (ha : la.length ≤ ca) (hb : lb.length ≤ cb) (h1 : RdP W W.heap.size A la) (h2 : RdP W W.heap.size B lb) :
  LsAt (W.alloc (.cells #[.slice A la.length ca, .slice B lb.length cb] 31)) (some ⟨W.heap.size, 0, none⟩) [la, lb] := by
 have hbl : Below W.heap.size W (W.alloc (.cells #[.slice A la.length ca, .slice B lb.length cb] 31)) := (jE _ _).alloc (jD _) _
 refine lsAt_blk (vs := [.slice A la.length ca, .slice B lb.length cb]) (Blk.new _ _ _) (fun i hi => ?_)
 match i, hi with
 | 0, _ => exact ⟨_, _, rfl, ha, (Rd.below (show Rd W W.heap.size A (pcs la) from h1) hbl).more hbl.size⟩
 | 1, _ => exact ⟨_, _, rfl, hb, (Rd.below (show Rd W W.heap.size B (pcs lb) from h2) hbl).more hbl.size⟩
theorem run_boxN {P : Program} (w : World) {o : Oper} {ρ : Operand → Value} (t : TypeId) (x : Operand) (ho : o.op = .box t x) (cells : Array Value) (hx : (ρ x).cells = cells) :
  (execOp ρ o).run P w = .ok (.value (.pointer (some ⟨w.heap.size, 0, none⟩))) (w.alloc (.cells cells t)) := by
 subst hx
 unfold execOp
 simp only [ho, Sem.run_bind, Instr.box, newVar, newRow, run_newObj_alloc, Sem.run_pure, Result.andThen_ok]
theorem built_wk2 (b : Nat) (A : Option Addr) (n c : Nat) : Tryz.prog.built 33 [(0, .slice (some ⟨b, 0, none⟩) 2 2), (1, .slice A n c)] = some #[.slice (some ⟨b, 0, none⟩) 2 2, .slice A n c] := by kernel_rfl
theorem built_wk0 : Tryz.prog.built 33 [] = some zWk := by kernel_rfl
def lastO (os : List Gro3) : Nat → List Pc
 | 0 => []
 | i + 1 => (os.getD i gr0).l
def BothO (os : List Gro3) (B : Nat) (i : Nat) (u : Value) (W : World) : Prop :=
 (u = .pointer none ∧ (os.length ≤ 4 ∨ WideO os (i - 1))) ∨
 (∃ g b Am cm j, u = .pointer (some ⟨g, 0, none⟩) ∧ Blk W g 33 #[.slice (some ⟨b, 0, none⟩) 2 2, .slice Am (jnL os j).length cm] ∧ Blk W b 57 (vb (os.getD j gr0).nn ++ vb (os.getD (j + 1) gr0).nn) ∧ OwnP W B (.slice Am (jnL os j).length cm) (jnL os j) ∧ (B ≤ g ∧ B ≤ b) ∧ 4 < os.length ∧ j + 1 < i ∧ WideO os j ∧ (jnL os j).length ≤ 32)
theorem BothO.next {os : List Gro3} {B i : Nat} {u : Value} {W W' : World} (h : BothO os B i u W) (hb : Below W.heap.size W W') : BothO os B i u W' := by
 rcases h with h | ⟨g, b, Am, cm, j, h1, h2, h3, h4, h5⟩
 ·exact .inl h
 ·exact .inr ⟨g, b, Am, cm, j, h1, h2.below hb h2.lt, h3.below hb h3.lt, h4.next hb, h5⟩
def NxB (os : List Gro3) (ep : Nat) (h : Int) (w : World) (e : Ending) (w' : World) : Prop :=
 ∃ gone m is Ag cg Am cm, e = .returned (.tuple #[.agg #[.slice Ag gone.length cg, .slice Am m.length cm], .bool is, .int .i64 0]) ∧ NxD os ep h gone m is ∧ (∀ n, gone = [n] → ∃ b, Ag = some ⟨b, 0, none⟩ ∧ cg = 1 ∧ Blk w' b 57 (vb n)) ∧ RdN w' w'.heap.size Ag gone ∧ RdP w' w'.heap.size Am m ∧ m.length ≤ cm ∧ Below w.heap.size w w'
theorem NxB.mk {os : List Gro3} {ep : Nat} {h : Int} {w w' : World} {e : Ending} (gone : List (List Nat)) (m : List Pc) (is : Bool) (Ag : Option Addr) (cg : Nat) (Am : Option Addr) (cm : Nat) (he : e = .returned (.tuple #[.agg #[.slice Ag gone.length cg, .slice Am m.length cm], .bool is, .int .i64 0])) (hd : NxD os ep h gone m is) (hs : ∀ n, gone = [n] → ∃ b, Ag = some ⟨b, 0, none⟩ ∧ cg = 1 ∧ Blk w' b 57 (vb n)) (h1 : RdN w' w'.heap.size Ag gone) (h2 : RdP w' w'.heap.size Am m) (h3 : m.length ≤ cm) (hb : Below w.heap.size w w') : NxB os ep h w e w' :=
 ⟨gone, m, is, Ag, cg, Am, cm, he, hd, hs, h1, h2, h3, hb⟩
theorem atA_nnB {W : World} {ad : Addr} {t : ByteArray} {ep : Nat} {nn : List Nat} {A : Option Addr} {n c : Nat} (h : AtA W ad (bxL t ep nn A n c)) (hn : nn.length = 12) : AtA W ⟨ad.block, ad.off + 2, none⟩ (byt nn) := fun j u hu => by
 have hj : j < 12 := by
  rcases Nat.lt_or_ge j 12 with h1 | h1
  ·exact h1
  ·rw [List.getElem?_eq_none (by rw [byt_len, hn]; exact h1)] at hu; cases hu
 have h1 := h (2 + j) u (by
  unfold bxL
  rw [List.append_assoc, List.getElem?_append_right (by simp), List.getElem?_append_left (by simp [byt_len, hn]; omega)]
  rw [← hu]
  congr 1
  simp)
 rw [← h1]
 congr 1
 rw [Addr.add_mid]
 unfold Addr.add
 rw [if_neg (show ¬ 2 + j = 0 by omega), Nat.add_assoc]
theorem rdN_oneB {W : World} {b : Nat} {nn : List Nat} (h : Blk W b 57 (vb nn)) : RdN W (b + 1) (some ⟨b, 0, none⟩) [nn] := fun _ => ⟨_, rfl, Nat.lt_succ_self b, by
 rw [show nnC [nn] = byt nn by simp [nnC]]
 exact atA_blk h⟩
theorem rdN_twoB {W : World} {b : Nat} {n1 n2 : List Nat} (h : Blk W b 57 (vb n1 ++ vb n2)) : RdN W (b + 1) (some ⟨b, 0, none⟩) [n1, n2] := fun _ => ⟨_, rfl, Nat.lt_succ_self b, by
 rw [show nnC [n1, n2] = byt n1 ++ byt n2 by simp [nnC]]
 refine atA_blk (T := 57) ?_
 have e : (byt n1 ++ byt n2).toArray = vb n1 ++ vb n2 := by unfold vb; simp
 rw [e]
 exact h⟩
theorem next_c (A : Option Addr) (cap : Nat) (bs : List Bxo) (t : ByteArray) (kb n : Nat) (kf : Nat → Option (List Nat)) (ep : Nat) (h : Int) (w : World) (hr : RdX w A bs) (hl : bs.length ≤ 10000000) (hbl : ∀ b ∈ bs, b.body.length ≤ 100000) (hkm : KeysAt w kb n (kmV kf)) (hok : ∀ b ∈ ofT t bs, OpOk kf b ∧ kf b.ep ≠ none) (hq : QuartersAt w) :
  Calls Tryz.prog 7 #[.map (some kb), .slice A bs.length cap, .string t, .int .u32 (ep : Nat), .int .i64 h] w (NxB ((ofT t bs).map (oG kf)) ep h w) := by
 have zf := zero_wk
 have zs1 : zWk.size = 2 := by rfl
 have zs2 : ¬ zWk = #[] := by intro h; have := congrArg Array.size h; rw [zs1] at this; cases this
 have zf2 := zero_bx
 have zs3 : zBx.size = 15 := by rfl
 have zs4 : ¬ zBx = #[] := by intro h; have := congrArg Array.size h; rw [zs3] at this; cases this
 obtain ⟨ig, hig, hg0, hg1x, hg2x⟩ := parts_of nonceInfo
 obtain ⟨Z, hZ⟩ : ∃ Z, Z = w.alloc (Obj.cells zWk 33) := ⟨_, rfl⟩
 have hbz : Below w.heap.size w Z := by rw [hZ]; exact (jE _ _).alloc (jD _) _
 have hzb : Blk Z w.heap.size 33 zWk := by rw [hZ]; exact Blk.new _ _ _
 have HBZ := Li hbz
 have HZB := Li hzb
 have HOF := Li (of29_c A cap bs t Z (hr.next hbz) hl hbl)
 have hN2 : (ofT t bs).length ≤ 10000000 := Nat.le_trans (ofT_len t bs) hl
 obtain ⟨bs1, hbs1⟩ : ∃ x, x = ofT t bs := ⟨_, rfl⟩
 rw [← hbs1] at HOF hok hN2 ⊢
 obtain ⟨os, hos⟩ : ∃ os, os = bs1.map (oG kf) := ⟨_, rfl⟩
 rw [← hos]
 have HOG := Li (show ∀ i, i < bs1.length → os.getD i gr0 = oG kf (bs1.getD i bo0) from fun i hi => by rw [hos]; exact oG_getD kf bs1 hi)
 have hosl : os.length = bs1.length := by rw [hos, List.length_map]
 obtain ⟨N, hN⟩ : ∃ N, N = bs1.length := ⟨_, rfl⟩
 rw [← hN] at HOF hN2 hosl HOG
 have HN := Li hN
 have HN2 := Li hN2
 have HOL := Li hosl
 have HOP := Li (fun b0 (hb0 : b0 ∈ bs1) W (hb : Below w.heap.size w W) Ax cx (hx : RdX W Ax [b0]) => show Calls Tryz.prog 22 #[.map (some kb), .slice Ax 1 cx] W fun e w' => ∃ v, e = .returned (.tuple #[v, .int .i64 0]) ∧ OwnP w' W.heap.size v (mergeL (opB kf b0)) ∧ Below W.heap.size W w' by
  have h1 := bopen_c Ax cx [b0] kb n kf W hx (by simp) (hkm.next hb) (fun b hb => by rw [List.mem_singleton.1 hb]; exact (hok b0 hb0).1) (hq.next hb)
  refine h1.mono ?_
  rintro e w' ⟨h2, hb2⟩
  rcases h2 with ⟨⟨b, h3, h4⟩, _⟩ | ⟨_, v, e1, h3⟩
  ·rw [List.mem_singleton.1 h3] at h4
   exact absurd h4 (hok b0 hb0).2
  ·rw [show [b0].map (opB kf) = [opB kf b0] from rfl, show [opB kf b0].flatten = opB kf b0 by simp] at h3
   exact ⟨v, e1, h3, hb2⟩)
 have HML := Li (show ∀ b0 ∈ bs1, (mergeL (opB kf b0)).length ≤ 1000 ∧ ∀ p ∈ mergeL (opB kf b0), PcOk p ∧ p.s.size ≤ 9223372036854775807 from fun b0 hb0 => ⟨Nat.le_trans (merge_len _) (hok b0 hb0).1.len, fun p hp => (hok b0 hb0).1.pcs p (merge_sub _ p hp)⟩)
 have HKQ := Li (fun b0 (hb0 : b0 ∈ bs1) W Am cm (hm : RdP W W.heap.size Am (mergeL (opB kf b0))) => kept_c Am cm (mergeL (opB kf b0)) h W hm (by have := (HML.out b0 hb0).1; omega) (fun p hp => ((HML.out b0 hb0).2 p hp).1))
 have HEA := Li (fun b0 (hb0 : b0 ∈ bs1) W Am cm (hm : RdP W W.heap.size Am (mergeL (opB kf b0))) => early_c Am cm (mergeL (opB kf b0)) h W hm (by have := (HML.out b0 hb0).1; omega))
 have HMC := Li (fun (la lb : List Pc) W Ax (hls : LsAt W Ax [la, lb]) (h1 : la.length ≤ 1000 ∧ ∀ p ∈ la, PcOk p ∧ p.s.size ≤ 9223372036854775807) (h2 : lb.length ≤ 1000 ∧ ∀ p ∈ lb, PcOk p ∧ p.s.size ≤ 9223372036854775807) => show Calls Tryz.prog 25 #[.slice Ax 2 2] W fun e w' => ∃ v, e = .returned v ∧ OwnP w' W.heap.size v (mergeL (la ++ lb)) ∧ Below W.heap.size W w' by
  have h3 := merge_c Ax 2 [la, lb] W hls (by simp) (by simp) (fun L hL => by
   rcases List.mem_cons.1 hL with rfl | hL
   ·exact h1
   ·rw [List.mem_singleton.1 hL]; exact h2)
  rw [show [la, lb].flatten = la ++ lb by simp] at h3
  exact h3)
 clear hr hl hbl hkm hok hq hbz hzb hbs1 hos hN hN2 hosl
 go_enter Tryz.func7, Tryz.ntmps7
 go_upto_region 1 with fail
 rw [← hZ]
 clear hZ
 try go_step3
 go_upto_region 2 with (go_at_call 20; (with_reducible refine HOF.out.mono ?_); rintro e W1 ⟨Ax, cx, rfl, hcx, hrx, hb⟩; have HX1 := Li hrx; have HB1 := Li hb; have HCX := Li hcx; clear hrx hb hcx)
 have HZ1 := Li (show Blk W1 w.heap.size 33 zWk from HZB.out.below HB1.out HZB.out.lt)
 have HBW1 := Li (HBZ.out.trans (HB1.out.mono HBZ.out.size))
 have HBW := Li HBW1.out
 clear HOF HZB HB1 HBZ
 go_wp2_with fail
 go_loopw [29] (fun iv wr => ∃ i : Nat, i ≤ N ∧ iv = .int .i64 (i : Nat) ∧ Hid (FreshO os ep i) ∧ Below W1.heap.size W1 wr) (fun iv _ => N - (intOf iv).toNat)
 case atStart => exact ⟨0, Nat.zero_le _, rfl, Li (fun j hj => absurd hj (Nat.not_lt_zero _)), jE _ _⟩
 case round =>
  rename World => wr
  obtain ⟨i, hi, rfl, HFR, hb⟩ := hrel
  have HB := Li hb
  clear hb
  by_cases hlt : i < N
  ·skip
   obtain ⟨ad, Ai, ci, rfl, hab, hat, hci, hrb, hbo⟩ := HX1.out.box (show i < bs1.length by rw [← HN.out]; exact hlt)
   have hgi := HOG.out i hlt
   obtain ⟨b0, hb0⟩ : ∃ b, b = bs1.getD i bo0 := ⟨_, rfl⟩
   rw [← hb0] at hat hci hrb hbo hgi
   have hbm : b0 ∈ bs1 := by rw [hb0, jA, jB (show i < bs1.length by rw [← HN.out]; exact hlt)]; exact List.getElem_mem _
   obtain ⟨m, hm⟩ : ∃ m, m = mergeL (opB kf b0) := ⟨_, rfl⟩
   have HM := Li (show (os.getD i gr0).l = m by rw [hgi, hm]; rfl)
   have HMNN := Li (show (os.getD i gr0).nn = b0.nn by rw [hgi]; rfl)
   have HMEP := Li (show (os.getD i gr0).ep = b0.ep by rw [hgi]; rfl)
   have HOPB := Li (HOP.out b0 hbm)
   have HEAB := Li (HEA.out b0 hbm)
   have HKPB := Li (HKQ.out b0 hbm)
   have HMLN := Li (HML.out b0 hbm)
   rw [← hm] at HOPB HEAB HKPB HMLN
   have hmL : m.length ≤ 1000 := HMLN.out.1
   clear hm hb0 hbm hgi
   have r0 : (i : Int) < (N : Int) := by omega
   have r1 : (i : Int) + 1 ≤ (cx : Int) := by have := HCX.out; omega
   have r2 : (i : Int) + 1 ≤ (N : Int) := by omega
   have m1 : (i : Int) ≤ 10000000 := by have := HN2.out; omega
   have habs : (ad.add (i * 15)).block < W1.heap.size := by rw [add_block]; exact hab
   have hbtl : b0.nn.length = 12 := hbo.nl
   obtain ⟨bt, be, bn, bd⟩ := b0
   simp only at hat hci hrb hbtl HMNN HMEP
   have HNL := Li hbtl
   have HAT := Li (hat.below HB.out habs)
   have HLN := Li (bxLn bt be (nn := bn) Ai bd.length ci hbtl)
   have HSZ := Li (fun A n c => bxSz bt be (nn := bn) A n c hbtl)
   have HZS := Li (show zBx.size = (bxV bt be bn Ai bd.length ci).size by rw [zBx_size]; unfold bxV; rw [List.size_toArray, bxL_len bt be Ai bd.length ci hbtl])
   have HNNL := Li (show (Tryz.prog.info? 57).map (·.size) = some (byt bn).length by rw [byt_len, hbtl]; kernel_rfl)
   have HX0 := Li (show ∀ W, Below W1.heap.size W1 W → RdX W (some (ad.add (i * 15))) [⟨bt, be, bn, bd⟩] from fun W hb => by
    have hat2 := hat.below hb habs
    refine ⟨[bxL bt be bn Ai bd.length ci], ?_, fun _ => ⟨_, rfl, jH habs hb.size, ?_⟩⟩
    ·exact BsV.snoc (BsV.nil_ W) (u := bxL bt be bn Ai bd.length ci) (b := ⟨bt, be, bn, bd⟩) ⟨Ai, ci, rfl, hci, (hrb.below hb).more hb.size⟩ hbo
    ·rw [show [bxL bt be bn Ai bd.length ci].flatten = bxL bt be bn Ai bd.length ci by simp]
     exact hat2)
   have HLT := Li hlt
   clear hat hci hrb hbo hbtl hab habs hlt hi
   go_upto_region 5 with (first
    | (refine wpList_loadA rfl 61 (.tmp 32) rfl (ad.add (i * 15)) rfl (bxL bt be bn Ai bd.length ci) _ HAT.out Tryz.underlying61 rfl HLN.out ?_)
    | (refine wpList_store_rowTo rfl 61 (.tmp 14) (.tmp 33) rfl rfl wr.heap.size (bxV bt be bn Ai bd.length ci) rfl rfl 61 zBx (by exact heap_alloc_new _ _) (HSZ.out ..) HZS.out (bx_all _ _ _ _ _ _) ?_))
   obtain ⟨Y, hY⟩ : ∃ Y, Y = (wr.alloc (Obj.cells zBx 61)).setRow wr.heap.size (bxV bt be bn Ai bd.length ci) := ⟨_, rfl⟩
   have hnr := new_rowP wr 61 zBx (bxV bt be bn Ai bd.length ci)
   rw [← hY] at hnr ⊢
   have c1 : Y.cell? ⟨wr.heap.size, 1, none⟩ = some (.int .u32 (be : Int)) := (hnr.1.cell 1).trans rfl
   have HXB := Li hnr.1
   have HY1 := Li hnr.2
   have HBY := Li (HB.out.trans (hnr.2.mono HB.out.size))
   have HOPY := Li (fun c => HOPB.out Y (HBW1.out.trans (HBY.out.mono HBW1.out.size)) (some (ad.add (i * 15))) c (HX0.out Y HBY.out))
   have HZY := Li (HZ1.out.below HBY.out (HZ1.out.lt))
   obtain ⟨g14, hg14⟩ : ∃ g, g = wr.heap.size := ⟨_, rfl⟩
   rw [← hg14] at HXB c1 ⊢
   have HNE := Li (show w.heap.size ≠ g14 by rw [hg14]; have := HZ1.out.lt; have := HB.out.size; omega)
   clear hnr hY HX0 HAT HLN HZS hg14
   by_cases hst : be < ep
   ·have r3 : (be : Int) < (ep : Int) := by omega
    have HST := Li (show (os.getD i gr0).ep < ep by rw [HMEP.out]; exact hst)
    clear hst
    obtain ⟨KE, hKE⟩ : ∃ K, K = keptL h m := ⟨_, rfl⟩
    have HNX := Li (show NxD os ep h [bn] KE true by
     rw [hKE, ← HM.out, ← HMNN.out]
     exact .stale i (by rw [HOL.out]; exact HLT.out) HFR.out HST.out)
    have HKP := Li (fun W Am cm (hm : RdP W W.heap.size Am m) => HKPB.out W Am cm hm)
    rw [← hKE] at HKP
    clear hKE
    go_upto_region 7 with (go_at_call 22; (refine (HOPY.out _).mono ?_); rintro e W3 ⟨v, rfl, ho, hb⟩; obtain ⟨Am, cm, rfl, hcm, _, hrm⟩ := ho.rd; have HB3 := Li (HBY.out.trans (hb.mono HBY.out.size)); have HY3 := Li (HY1.out.trans (hb.mono HY1.out.size)); have HZ3 := Li (HZY.out.below hb HZY.out.lt); have HXB3 := Li (HXB.out.below hb HXB.out.lt); have HRM3 := Li (show RdP W3 W3.heap.size Am m from hrm); have HCM := Li hcm; clear ho hb hrm hcm)
    clear HOPY HZY HXB c1
    have HNA := Li (fun (W : World) (h : ∃ x : Ext W3, W = x.wd) => show AtA W ⟨g14, 2, none⟩ (byt bn) by
     obtain ⟨x, rfl⟩ := h
     exact fun j u hu => x.cell (bx_nn HXB3.out HNL.out j u hu))
    have HKC := Li (fun U (hb : Below W3.heap.size W3 U) => show Calls Tryz.prog 23 #[.slice Am m.length cm, .int .i64 h] U fun e w' => ∃ v, e = .returned v ∧ OwnP w' U.heap.size v KE ∧ Below U.heap.size U w' from HKP.out U Am cm ((Rd.below (show Rd W3 W3.heap.size Am (pcs m) from HRM3.out) hb).more hb.size))
    have HG14 := Li (show w.heap.size < W3.heap.size ∧ g14 < W3.heap.size ∧ w.heap.size ≠ g14 from ⟨HZ3.out.lt, HXB3.out.lt, HNE.out⟩)
    have hS0 : AtA W3.drew ⟨g14, 2, none⟩ (byt bn) := HNA.out W3.drew (Ext.of (jE _ _).drew)
    refine wp_region_held (S := fun w' => AtA w' ⟨g14, 2, none⟩ (byt bn)) (by kernel_rfl) ?_
    show wpAnyH _ _ _ _ _ 13 _ _ W3.drew
    refine anyH_quiet 0 rfl (by kernel_rfl) (by kernel_rfl) (by kernel_rfl) (fun _ _ _ _ h => h) rfl rfl hS0 ?_
    intro K hK
    conv => arg 2; whnf
    go_big_quiet_op
    try first | refine ⟨_, fun _ _ => rfl, ?_⟩ | refine ⟨_, fun _ _ _ => rfl, ?_⟩
    go_big_quiet_on
    try simp only [Act.put, sI, sS, sZ]
    refine anyH_quiet 1 rfl (by kernel_rfl) (by kernel_rfl) (by kernel_rfl) (fun _ _ _ _ h => h) rfl rfl hS0 ?_
    intro K hK
    conv => arg 2; whnf
    refine quiet_loadA 57 (.tmp 48) rfl ⟨g14, 2, none⟩ rfl (byt bn) _ (fun _ h => h) Tryz.underlying57 rfl HNNL.out _ (by conv => lhs; arg 2; whnf) ?_
    try first | refine ⟨_, fun _ _ => rfl, ?_⟩ | refine ⟨_, fun _ _ _ => rfl, ?_⟩
    go_big_quiet_on
    try simp only [Act.put, sI, sS, sZ]
    refine anyH_quiet 3 rfl (by kernel_rfl) (by kernel_rfl) (by kernel_rfl) (fun _ _ _ _ h => h) rfl rfl hS0 ?_
    intro K hK
    conv => arg 2; whnf
    go_big_quiet_op
    try first | refine ⟨_, fun _ _ => rfl, ?_⟩ | refine ⟨_, fun _ _ _ => rfl, ?_⟩
    go_big_quiet_on
    try simp only [Act.put, sI, sS, sZ]
    refine anyH_quiet 4 rfl (by kernel_rfl) (by kernel_rfl) (by kernel_rfl) (fun _ _ _ _ h => h) rfl rfl hS0 ?_
    intro K hK
    conv => arg 2; whnf
    go_big_quiet_op
    try first | refine ⟨_, fun _ _ => rfl, ?_⟩ | refine ⟨_, fun _ _ _ => rfl, ?_⟩
    go_big_quiet_on
    try simp only [Act.put, sI, sS, sZ]
    refine anyH_quiet 7 rfl (by kernel_rfl) (by kernel_rfl) (by kernel_rfl) (fun _ _ _ _ h => h) rfl rfl hS0 ?_
    intro K hK
    conv => arg 2; whnf
    go_big_quiet_op
    try first | refine ⟨_, fun _ _ => rfl, ?_⟩ | refine ⟨_, fun _ _ _ => rfl, ?_⟩
    go_big_quiet_on
    try simp only [Act.put, sI, sS, sZ]
    refine anyH_quiet 8 rfl (by kernel_rfl) (by kernel_rfl) (by kernel_rfl) (fun _ _ _ _ h => h) rfl rfl hS0 ?_
    intro K hK
    conv => arg 2; whnf
    go_big_quiet_op
    try first | refine ⟨_, fun _ _ => rfl, ?_⟩ | refine ⟨_, fun _ _ _ => rfl, ?_⟩
    go_big_quiet_on
    try simp only [Act.put, sI, sS, sZ]
    refine anyH_quiet 9 rfl (by kernel_rfl) (by kernel_rfl) (by kernel_rfl) (fun _ _ _ _ h => h) rfl rfl hS0 ?_
    intro K hK
    conv => arg 2; whnf
    go_big_quiet_op
    try first | refine ⟨_, fun _ _ => rfl, ?_⟩ | refine ⟨_, fun _ _ _ => rfl, ?_⟩
    go_big_quiet_on
    try simp only [Act.put, sI, sS, sZ]
    have hU : Below W3.heap.size W3 W3.drew := (jE _ _).drew
    generalize W3.drew = U at *
    clear hS0
    have HSA := Li (fun W (hb : Below W3.heap.size W3 W) => HNA.out W (Ext.of hb))
    have hbsz : (vb bn).size = 12 := by rw [vb_size, HNL.out]
    refine anyH_two 2 5 (by kernel_rfl) rfl rfl rfl rfl ?_ ?_
    ·have hU1 : Below W3.heap.size W3 (U.alloc (.cells (vb bn) 57)) := hU.alloc hU.size _
     refine op_value (run_oneG Tryz.underlying30 hig hg0 hg1x (by decide) (by decide) U (vb bn) hbsz (.tmp 49) rfl rfl) _ (by conv => lhs; arg 2; whnf) ⟨HSA.out _ hU1, ?_⟩
     try simp only [Act.put, sI, sS, sZ]
     have hblU1 : Blk (U.alloc (.cells (vb bn) 57)) U.heap.size 57 (vb bn) := Blk.new _ _ _
     have hbsU1 : Below U.heap.size U (U.alloc (.cells (vb bn) 57)) := (jE _ _).alloc (jD _) _
     generalize U.alloc (.cells (vb bn) 57) = U1 at *
     refine anyH_op 5 (by kernel_rfl) rfl rfl ?_
     refine op_call (by kernel_rfl) _ (fun v => by conv => lhs; arg 2; whnf) ((HKC.out U1 hU1).mono ?_)
     rintro e U2 ⟨vk, rfl, hok, hbU2⟩
     obtain ⟨A5, c5, rfl, hc5, _, r5⟩ := hok.rd
     have hU2 : Below W3.heap.size W3 U2 := hU1.trans (hbU2.mono hU1.size)
     refine ⟨_, rfl, HSA.out _ hU2, ?_⟩
     try simp only [Act.put, sI, sS, sZ]
     refine anyH_op 6 (by kernel_rfl) rfl rfl ?_
     refine op_value (run_built _ 33 [(0, .slice (some ⟨U.heap.size, 0, none⟩) 1 1), (1, .slice A5 KE.length c5)] _ (built_wk U.heap.size A5 KE.length c5) #[(0, .tmp 50), (1, .tmp 53)] rfl (by kernel_rfl)) _ (by conv => lhs; arg 2; whnf) ⟨HSA.out _ hU2, ?_⟩
     try simp only [Act.put, sI, sS, sZ]
     refine anyH_op 10 (by kernel_rfl) rfl rfl ?_
     have hz2 : Blk U2 w.heap.size 33 zWk := HZ3.out.below hU2 HG14.out.1
     have hx2 : Blk U2 U.heap.size 57 (vb bn) := hblU1.below hbU2 hblU1.lt
     obtain ⟨R, eR⟩ : ∃ R, R = U2.setRow w.heap.size #[.slice (some ⟨U.heap.size, 0, none⟩) 1 1, .slice A5 KE.length c5] := ⟨_, rfl⟩
     have hRO : Only (fun i => i = w.heap.size) U2 R := by rw [eR]; exact setRow_only _ _ _
     have hRb : Blk R w.heap.size 33 #[.slice (some ⟨U.heap.size, 0, none⟩) 1 1, .slice A5 KE.length c5] := by rw [eR]; exact setRow_heap _ _ zWk _ 33 (0, 0) hz2
     have hSR : AtA R ⟨g14, 2, none⟩ (byt bn) := fun j u hu => by
      rw [← HSA.out _ hU2 j u hu]
      exact World.cell?_of_block (by rw [add_block]; exact hRO.block g14 (jH HG14.out.2.1 hU2.size) (fun e => HG14.out.2.2 e.symm))
     refine wp_store_row 33 (.tmp 10) (.tmp 54) rfl w.heap.size #[.slice (some ⟨U.heap.size, 0, none⟩) 1 1, .slice A5 KE.length c5] rfl rfl 33 zWk hz2 (wkSz _ _) rfl (by simp [Value.oneCell']) ?_
     rw [← eR]
     have hbR : Below w.heap.size w R := by
      rw [eR]
      exact (HBW.out.trans ((HB3.out.trans (hU2.mono HB3.out.size)).mono HBW.out.size)).trans (below_setRowP _ _ _ (jD _))
     clear eR
     refine ⟨hSR, ?_⟩
     conv => arg 8; whnf
     try simp only [Act.put, sI, sS, sZ]
     refine anyH_quiet 11 rfl (by kernel_rfl) (by kernel_rfl) (by kernel_rfl) (fun _ _ _ _ h => h) rfl rfl hSR ?_
     intro K hK
     conv => arg 2; whnf
     go_big_quiet_op
     try first | refine ⟨_, fun _ _ => rfl, ?_⟩ | refine ⟨_, fun _ _ _ => rfl, ?_⟩
     go_big_quiet_on
     try simp only [Act.put, sI, sS, sZ]
     refine anyH_quiet 12 rfl (by kernel_rfl) (by kernel_rfl) (by kernel_rfl) (fun _ _ _ _ h => h) rfl rfl hSR ?_
     intro K hK
     conv => arg 2; whnf
     go_big_quiet_op
     try first | refine ⟨_, fun _ _ => rfl, ?_⟩ | refine ⟨_, fun _ _ _ => rfl, ?_⟩
     go_big_quiet_on
     try simp only [Act.put, sI, sS, sZ]
     refine wpAnyH_done (by kernel_rfl) ?_ _
     go_wp2_with fail
     try rw [Exit.noGoto_ret]
     refine bodyPost_ret (results_row_tmp2N rfl _ _ w.heap.size 33 #[.slice (some ⟨U.heap.size, 0, none⟩) 1 1, .slice A5 KE.length c5] (0, 0) _ rfl hRb Tryz.underlying33 rfl (wkSz _ _)) rfl ?_
     have hxR : Blk R U.heap.size 57 (vb bn) := (hRO.block U.heap.size hx2.lt (by have := HG14.out.1; have := hU.size; have := hU1.size; omega)).trans hx2
     have hszR : U2.heap.size ≤ R.heap.size := hRO.size
     refine NxB.mk [bn] KE true (some ⟨U.heap.size, 0, none⟩) 1 A5 c5 rfl HNX.out (fun n e => by injection e with e _; subst e; exact ⟨_, rfl, rfl, hxR⟩) ((rdN_oneB hxR).more hxR.lt) ?_ hc5 hbR
     intro hne
     obtain ⟨ad5, e5, hb5, hat5⟩ := (show Rd U2 U2.heap.size A5 (pcs KE) from r5) hne
     have hge := own_new hok rfl ad5 e5
     refine ⟨ad5, e5, jH hb5 hszR, fun j u hu => ?_⟩
     rw [← hat5 j u hu]
     exact World.cell?_of_block (by rw [add_block]; exact hRO.block ad5.block hb5 (by have := HG14.out.1; have := hU.size; have := hU1.size; omega))
    ·refine op_call (by kernel_rfl) _ (fun v => by conv => lhs; arg 2; whnf) ((HKC.out U hU).mono ?_)
     rintro e U1 ⟨vk, rfl, hok, hbU1⟩
     obtain ⟨A5, c5, rfl, hc5, _, r5⟩ := hok.rd
     have hU1 : Below W3.heap.size W3 U1 := hU.trans (hbU1.mono hU.size)
     refine ⟨_, rfl, HSA.out _ hU1, ?_⟩
     try simp only [Act.put, sI, sS, sZ]
     refine anyH_op 2 (by kernel_rfl) rfl rfl ?_
     have hU2 : Below W3.heap.size W3 (U1.alloc (.cells (vb bn) 57)) := hU1.alloc hU1.size _
     refine op_value (run_oneG Tryz.underlying30 hig hg0 hg1x (by decide) (by decide) U1 (vb bn) hbsz (.tmp 49) rfl rfl) _ (by conv => lhs; arg 2; whnf) ⟨HSA.out _ hU2, ?_⟩
     try simp only [Act.put, sI, sS, sZ]
     have hblU2 : Blk (U1.alloc (.cells (vb bn) 57)) U1.heap.size 57 (vb bn) := Blk.new _ _ _
     have hbsU2 : Below U1.heap.size U1 (U1.alloc (.cells (vb bn) 57)) := (jE _ _).alloc (jD _) _
     generalize U1.alloc (.cells (vb bn) 57) = U2 at *
     refine anyH_op 6 (by kernel_rfl) rfl rfl ?_
     refine op_value (run_built _ 33 [(0, .slice (some ⟨U1.heap.size, 0, none⟩) 1 1), (1, .slice A5 KE.length c5)] _ (built_wk U1.heap.size A5 KE.length c5) #[(0, .tmp 50), (1, .tmp 53)] rfl (by kernel_rfl)) _ (by conv => lhs; arg 2; whnf) ⟨HSA.out _ hU2, ?_⟩
     try simp only [Act.put, sI, sS, sZ]
     refine anyH_op 10 (by kernel_rfl) rfl rfl ?_
     have hz2 : Blk U2 w.heap.size 33 zWk := HZ3.out.below hU2 HG14.out.1
     have hx2 : Blk U2 U1.heap.size 57 (vb bn) := hblU2
     obtain ⟨R, eR⟩ : ∃ R, R = U2.setRow w.heap.size #[.slice (some ⟨U1.heap.size, 0, none⟩) 1 1, .slice A5 KE.length c5] := ⟨_, rfl⟩
     have hRO : Only (fun i => i = w.heap.size) U2 R := by rw [eR]; exact setRow_only _ _ _
     have hRb : Blk R w.heap.size 33 #[.slice (some ⟨U1.heap.size, 0, none⟩) 1 1, .slice A5 KE.length c5] := by rw [eR]; exact setRow_heap _ _ zWk _ 33 (0, 0) hz2
     have hSR : AtA R ⟨g14, 2, none⟩ (byt bn) := fun j u hu => by
      rw [← HSA.out _ hU2 j u hu]
      exact World.cell?_of_block (by rw [add_block]; exact hRO.block g14 (jH HG14.out.2.1 hU2.size) (fun e => HG14.out.2.2 e.symm))
     refine wp_store_row 33 (.tmp 10) (.tmp 54) rfl w.heap.size #[.slice (some ⟨U1.heap.size, 0, none⟩) 1 1, .slice A5 KE.length c5] rfl rfl 33 zWk hz2 (wkSz _ _) rfl (by simp [Value.oneCell']) ?_
     rw [← eR]
     have hbR : Below w.heap.size w R := by
      rw [eR]
      exact (HBW.out.trans ((HB3.out.trans (hU2.mono HB3.out.size)).mono HBW.out.size)).trans (below_setRowP _ _ _ (jD _))
     clear eR
     refine ⟨hSR, ?_⟩
     conv => arg 8; whnf
     try simp only [Act.put, sI, sS, sZ]
     refine anyH_quiet 11 rfl (by kernel_rfl) (by kernel_rfl) (by kernel_rfl) (fun _ _ _ _ h => h) rfl rfl hSR ?_
     intro K hK
     conv => arg 2; whnf
     go_big_quiet_op
     try first | refine ⟨_, fun _ _ => rfl, ?_⟩ | refine ⟨_, fun _ _ _ => rfl, ?_⟩
     go_big_quiet_on
     try simp only [Act.put, sI, sS, sZ]
     refine anyH_quiet 12 rfl (by kernel_rfl) (by kernel_rfl) (by kernel_rfl) (fun _ _ _ _ h => h) rfl rfl hSR ?_
     intro K hK
     conv => arg 2; whnf
     go_big_quiet_op
     try first | refine ⟨_, fun _ _ => rfl, ?_⟩ | refine ⟨_, fun _ _ _ => rfl, ?_⟩
     go_big_quiet_on
     try simp only [Act.put, sI, sS, sZ]
     refine wpAnyH_done (by kernel_rfl) ?_ _
     go_wp2_with fail
     try rw [Exit.noGoto_ret]
     refine bodyPost_ret (results_row_tmp2N rfl _ _ w.heap.size 33 #[.slice (some ⟨U1.heap.size, 0, none⟩) 1 1, .slice A5 KE.length c5] (0, 0) _ rfl hRb Tryz.underlying33 rfl (wkSz _ _)) rfl ?_
     have hxR : Blk R U1.heap.size 57 (vb bn) := (hRO.block U1.heap.size hx2.lt (by have := HG14.out.1; have := hU.size; have := hU1.size; omega)).trans hx2
     have hszR : U2.heap.size ≤ R.heap.size := hRO.size
     refine NxB.mk [bn] KE true (some ⟨U1.heap.size, 0, none⟩) 1 A5 c5 rfl HNX.out (fun n e => by injection e with e _; subst e; exact ⟨_, rfl, rfl, hxR⟩) ((rdN_oneB hxR).more hxR.lt) ?_ hc5 hbR
     intro hne
     obtain ⟨ad5, e5, hb5, hat5⟩ := (show Rd U2 U2.heap.size A5 (pcs KE) from (Rd.below (show Rd U1 U1.heap.size A5 (pcs KE) from r5) hbsU2).more hbsU2.size) hne
     have hge := own_new hok rfl ad5 e5
     refine ⟨ad5, e5, jH hb5 hszR, fun j u hu => ?_⟩
     rw [← hat5 j u hu]
     exact World.cell?_of_block (by rw [add_block]; exact hRO.block ad5.block hb5 (by have := HG14.out.1; have := hU.size; have := hU1.size; omega))
   ·have r3 : ¬ (be : Int) < (ep : Int) := by omega
    have HST := Li (show ep ≤ (os.getD i gr0).ep by rw [HMEP.out]; omega)
    clear hst
    go_wp2_with fail
    go_roundw
    case rel =>
     refine ⟨i + 1, HLT.out, by go_num, Li (fun j hj => ?_), HBY.out⟩
     rcases Nat.lt_or_ge j i with h2 | h2
     ·exact HFR.out j h2
     ·obtain rfl : j = i := by omega
      exact HST.out
    case measure => have := HLT.out; simp only [intOf]; omega
  ·obtain rfl : N = i := by omega
   clear hlt hi
   have HFO := Li (show FreshO os ep os.length by rw [HOL.out]; exact HFR.out)
   have HLOF := Li (show ∀ i, i ≤ N → (lastO os i).length ≤ 1000 ∧ ∀ p ∈ lastO os i, PcOk p ∧ p.s.size ≤ 9223372036854775807 from fun i hi => by
    cases i with
    | zero => exact ⟨Nat.zero_le _, fun p hp => by cases hp⟩
    | succ k =>
     show (os.getD k gr0).l.length ≤ 1000 ∧ ∀ p ∈ (os.getD k gr0).l, PcOk p ∧ p.s.size ≤ 9223372036854775807
     rw [HOG.out k (by omega)]
     exact HML.out _ (by
      have hk : k < bs1.length := by rw [← HN.out]; omega
      rw [jA, jB hk]
      exact List.getElem_mem _))
   go_wp2_with fail
   try go_step3
   go_wp2_with fail
   go_loopw [61, 17, 18] (fun iv u17 u18 wr => ∃ i : Nat, i ≤ N ∧ iv = .int .i64 (i : Nat) ∧ (∃ A17 c17, u17 = .slice A17 (lastO os i).length c17 ∧ (lastO os i).length ≤ c17 ∧ RdP wr wr.heap.size A17 (lastO os i)) ∧ Hid (BothO os W1.heap.size i u18 wr) ∧ Hid (LateO os h i) ∧ Below W1.heap.size W1 wr) (fun iv _ _ _ => N - (intOf iv).toNat)
   case atStart => exact ⟨0, Nat.zero_le _, rfl, ⟨none, 0, rfl, jD _, fun h0 => absurd rfl h0⟩, Li (.inl ⟨rfl, .inr (fun j hj => absurd hj (Nat.not_lt_zero _))⟩), Li (fun j hj => absurd hj (Nat.not_lt_zero _)), HB.out⟩
   case round =>
    clear HB HFR
    rename World => wr
    obtain ⟨i, hi, rfl, ⟨A17, c17, rfl, hc17, hr17⟩, HBO, HLA, hb⟩ := hrel
    have HB := Li hb
    have HC17 := Li hc17
    have HR17 := Li hr17
    have HLO := Li (HLOF.out i hi)
    clear hb hc17 hr17
    by_cases hlt : i < N
    ·skip
     obtain ⟨ad, Ai, ci, rfl, hab, hat, hci, hrb, hbo⟩ := HX1.out.box (show i < bs1.length by rw [← HN.out]; exact hlt)
     have hgi := HOG.out i hlt
     obtain ⟨b0, hb0⟩ : ∃ b, b = bs1.getD i bo0 := ⟨_, rfl⟩
     rw [← hb0] at hat hci hrb hbo hgi
     have hbm : b0 ∈ bs1 := by rw [hb0, jA, jB (show i < bs1.length by rw [← HN.out]; exact hlt)]; exact List.getElem_mem _
     obtain ⟨m, hm⟩ : ∃ m, m = mergeL (opB kf b0) := ⟨_, rfl⟩
     have HM := Li (show (os.getD i gr0).l = m by rw [hgi, hm]; rfl)
     have HMNN := Li (show (os.getD i gr0).nn = b0.nn by rw [hgi]; rfl)
     have HMEP := Li (show (os.getD i gr0).ep = b0.ep by rw [hgi]; rfl)
     have HOPB := Li (HOP.out b0 hbm)
     have HEAB := Li (HEA.out b0 hbm)
     have HKPB := Li (HKQ.out b0 hbm)
     have HMLN := Li (HML.out b0 hbm)
     rw [← hm] at HOPB HEAB HKPB HMLN
     have hmL : m.length ≤ 1000 := HMLN.out.1
     clear hm hb0 hbm hgi
     have r0 : (i : Int) < (N : Int) := by omega
     have r1 : (i : Int) + 1 ≤ (cx : Int) := by have := HCX.out; omega
     have r2 : (i : Int) + 1 ≤ (N : Int) := by omega
     have m1 : (i : Int) ≤ 10000000 := by have := HN2.out; omega
     have habs : (ad.add (i * 15)).block < W1.heap.size := by rw [add_block]; exact hab
     have hbtl : b0.nn.length = 12 := hbo.nl
     obtain ⟨bt, be, bn, bd⟩ := b0
     simp only at hat hci hrb hbtl HMNN HMEP
     have HNL := Li hbtl
     have HAT := Li (hat.below HB.out habs)
     have HLN := Li (bxLn bt be (nn := bn) Ai bd.length ci hbtl)
     have HSZ := Li (fun A n c => bxSz bt be (nn := bn) A n c hbtl)
     have HZS := Li (show zBx.size = (bxV bt be bn Ai bd.length ci).size by rw [zBx_size]; unfold bxV; rw [List.size_toArray, bxL_len bt be Ai bd.length ci hbtl])
     have HNNL := Li (show (Tryz.prog.info? 57).map (·.size) = some (byt bn).length by rw [byt_len, hbtl]; kernel_rfl)
     have HX0 := Li (show ∀ W, Below W1.heap.size W1 W → RdX W (some (ad.add (i * 15))) [⟨bt, be, bn, bd⟩] from fun W hb => by
      have hat2 := hat.below hb habs
      refine ⟨[bxL bt be bn Ai bd.length ci], ?_, fun _ => ⟨_, rfl, jH habs hb.size, ?_⟩⟩
      ·exact BsV.snoc (BsV.nil_ W) (u := bxL bt be bn Ai bd.length ci) (b := ⟨bt, be, bn, bd⟩) ⟨Ai, ci, rfl, hci, (hrb.below hb).more hb.size⟩ hbo
      ·rw [show [bxL bt be bn Ai bd.length ci].flatten = bxL bt be bn Ai bd.length ci by simp]
       exact hat2)
     have HLT := Li hlt
     clear hat hci hrb hbo hbtl hab habs hlt hi
     go_upto_region 14 with (first
      | (refine wpList_loadA rfl 61 (.tmp 64) rfl (ad.add (i * 15)) rfl (bxL bt be bn Ai bd.length ci) _ HAT.out Tryz.underlying61 rfl HLN.out ?_)
      | (refine wpList_store_rowTo rfl 61 (.tmp 20) (.tmp 65) rfl rfl wr.heap.size (bxV bt be bn Ai bd.length ci) rfl rfl 61 zBx (by exact heap_alloc_new _ _) (HSZ.out ..) HZS.out (bx_all _ _ _ _ _ _) ?_))
     obtain ⟨Y, hY⟩ : ∃ Y, Y = (wr.alloc (Obj.cells zBx 61)).setRow wr.heap.size (bxV bt be bn Ai bd.length ci) := ⟨_, rfl⟩
     have hnr := new_rowP wr 61 zBx (bxV bt be bn Ai bd.length ci)
     rw [← hY] at hnr ⊢
     have c1 : Y.cell? ⟨wr.heap.size, 1, none⟩ = some (.int .u32 (be : Int)) := (hnr.1.cell 1).trans rfl
     have HXB := Li hnr.1
     have HY1 := Li hnr.2
     have HBY := Li (HB.out.trans (hnr.2.mono HB.out.size))
     have HOPY := Li (fun c => HOPB.out Y (HBW1.out.trans (HBY.out.mono HBW1.out.size)) (some (ad.add (i * 15))) c (HX0.out Y HBY.out))
     have HZY := Li (HZ1.out.below HBY.out (HZ1.out.lt))
     obtain ⟨g14, hg14⟩ : ∃ g, g = wr.heap.size := ⟨_, rfl⟩
     rw [← hg14] at HXB c1 ⊢
     have HNE := Li (show w.heap.size ≠ g14 by rw [hg14]; have := HZ1.out.lt; have := HB.out.size; omega)
     clear hnr hY HX0 HAT HLN HZS hg14
     cases he : earlyB h m with
     | true =>
      rw [he] at HEAB
      have HE := Li he
      clear he
      obtain ⟨KE, hKE⟩ : ∃ K, K = keptL h m := ⟨_, rfl⟩
      have HNX := Li (show NxD os ep h [bn] KE true by
       rw [hKE, ← HM.out, ← HMNN.out]
       exact .early HFO.out i (by rw [HOL.out]; exact HLT.out) HLA.out (by rw [HM.out]; exact HE.out))
      have HKP := Li (fun W Am cm (hm : RdP W W.heap.size Am m) => HKPB.out W Am cm hm)
      rw [← hKE] at HKP
      clear hKE
      go_upto_region 18 with (first
       | (go_at_call 22; (refine (HOPY.out _).mono ?_); rintro e W2 ⟨v, rfl, ho, hb⟩; obtain ⟨Am, cm, rfl, hcm, _, hrm⟩ := ho.rd; have HB2 := Li (HBY.out.trans (hb.mono HBY.out.size)); have HY2 := Li (HY1.out.trans (hb.mono HY1.out.size)); have HZ2 := Li (HZY.out.below hb HZY.out.lt); have HXB2 := Li (HXB.out.below hb HXB.out.lt); have HRM2 := Li (show RdP W2 W2.heap.size Am m from hrm); have HCM := Li hcm; clear ho hb hrm hcm)
       | (go_at_call 24; (with_reducible refine (HEAB.out W2 Am cm HRM2.out).mono ?_); rintro e W3 ⟨rfl, hb⟩; have HB3 := Li (HB2.out.trans (hb.mono HB2.out.size)); have HY3 := Li (HY2.out.trans (hb.mono HY2.out.size)); have HZ3 := Li (HZ2.out.below hb HZ2.out.lt); have HXB3 := Li (HXB2.out.below hb HXB2.out.lt); have HRM3 := Li (show RdP W3 W3.heap.size Am m from (Rd.below (show Rd W2 W2.heap.size Am (pcs m) from HRM2.out) hb).more hb.size); clear hb))
      clear HOPY HZY HXB c1 HB2 HY2 HZ2 HXB2 HRM2
      have HNA := Li (fun (W : World) (h : ∃ x : Ext W3, W = x.wd) => show AtA W ⟨g14, 2, none⟩ (byt bn) by
       obtain ⟨x, rfl⟩ := h
       exact fun j u hu => x.cell (bx_nn HXB3.out HNL.out j u hu))
      have HKC := Li (fun U (hb : Below W3.heap.size W3 U) => show Calls Tryz.prog 23 #[.slice Am m.length cm, .int .i64 h] U fun e w' => ∃ v, e = .returned v ∧ OwnP w' U.heap.size v KE ∧ Below U.heap.size U w' from HKP.out U Am cm ((Rd.below (show Rd W3 W3.heap.size Am (pcs m) from HRM3.out) hb).more hb.size))
      have HG14 := Li (show w.heap.size < W3.heap.size ∧ g14 < W3.heap.size ∧ w.heap.size ≠ g14 from ⟨HZ3.out.lt, HXB3.out.lt, HNE.out⟩)
      have hS0 : AtA W3.drew ⟨g14, 2, none⟩ (byt bn) := HNA.out W3.drew (Ext.of (jE _ _).drew)
      refine wp_region_held (S := fun w' => AtA w' ⟨g14, 2, none⟩ (byt bn)) (by kernel_rfl) ?_
      show wpAnyH _ _ _ _ _ 10 _ _ W3.drew
      refine anyH_quiet 0 rfl (by kernel_rfl) (by kernel_rfl) (by kernel_rfl) (fun _ _ _ _ h => h) rfl rfl hS0 ?_
      intro K hK
      conv => arg 2; whnf
      go_big_quiet_op
      try first | refine ⟨_, fun _ _ => rfl, ?_⟩ | refine ⟨_, fun _ _ _ => rfl, ?_⟩
      go_big_quiet_on
      try simp only [Act.put, sI, sS, sZ]
      refine anyH_quiet 1 rfl (by kernel_rfl) (by kernel_rfl) (by kernel_rfl) (fun _ _ _ _ h => h) rfl rfl hS0 ?_
      intro K hK
      conv => arg 2; whnf
      refine quiet_loadA 57 (.tmp 85) rfl ⟨g14, 2, none⟩ rfl (byt bn) _ (fun _ h => h) Tryz.underlying57 rfl HNNL.out _ (by conv => lhs; arg 2; whnf) ?_
      try first | refine ⟨_, fun _ _ => rfl, ?_⟩ | refine ⟨_, fun _ _ _ => rfl, ?_⟩
      go_big_quiet_on
      try simp only [Act.put, sI, sS, sZ]
      refine anyH_quiet 3 rfl (by kernel_rfl) (by kernel_rfl) (by kernel_rfl) (fun _ _ _ _ h => h) rfl rfl hS0 ?_
      intro K hK
      conv => arg 2; whnf
      go_big_quiet_op
      try first | refine ⟨_, fun _ _ => rfl, ?_⟩ | refine ⟨_, fun _ _ _ => rfl, ?_⟩
      go_big_quiet_on
      try simp only [Act.put, sI, sS, sZ]
      refine anyH_quiet 4 rfl (by kernel_rfl) (by kernel_rfl) (by kernel_rfl) (fun _ _ _ _ h => h) rfl rfl hS0 ?_
      intro K hK
      conv => arg 2; whnf
      go_big_quiet_op
      try first | refine ⟨_, fun _ _ => rfl, ?_⟩ | refine ⟨_, fun _ _ _ => rfl, ?_⟩
      go_big_quiet_on
      try simp only [Act.put, sI, sS, sZ]
      have hU : Below W3.heap.size W3 W3.drew := (jE _ _).drew
      generalize W3.drew = U at *
      clear hS0
      have HSA := Li (fun W (hb : Below W3.heap.size W3 W) => HNA.out W (Ext.of hb))
      have hbsz : (vb bn).size = 12 := by rw [vb_size, HNL.out]
      refine anyH_two 2 5 (by kernel_rfl) rfl rfl rfl rfl ?_ ?_
      ·have hU1 : Below W3.heap.size W3 (U.alloc (.cells (vb bn) 57)) := hU.alloc hU.size _
       refine op_value (run_oneG Tryz.underlying30 hig hg0 hg1x (by decide) (by decide) U (vb bn) hbsz (.tmp 86) rfl rfl) _ (by conv => lhs; arg 2; whnf) ⟨HSA.out _ hU1, ?_⟩
       try simp only [Act.put, sI, sS, sZ]
       have hblU1 : Blk (U.alloc (.cells (vb bn) 57)) U.heap.size 57 (vb bn) := Blk.new _ _ _
       have hbsU1 : Below U.heap.size U (U.alloc (.cells (vb bn) 57)) := (jE _ _).alloc (jD _) _
       generalize U.alloc (.cells (vb bn) 57) = U1 at *
       refine anyH_op 5 (by kernel_rfl) rfl rfl ?_
       refine op_call (by kernel_rfl) _ (fun v => by conv => lhs; arg 2; whnf) ((HKC.out U1 hU1).mono ?_)
       rintro e U2 ⟨vk, rfl, hok, hbU2⟩
       obtain ⟨A5, c5, rfl, hc5, _, r5⟩ := hok.rd
       have hU2 : Below W3.heap.size W3 U2 := hU1.trans (hbU2.mono hU1.size)
       refine ⟨_, rfl, HSA.out _ hU2, ?_⟩
       try simp only [Act.put, sI, sS, sZ]
       refine anyH_op 6 (by kernel_rfl) rfl rfl ?_
       refine op_value (run_built _ 33 [(0, .slice (some ⟨U.heap.size, 0, none⟩) 1 1), (1, .slice A5 KE.length c5)] _ (built_wk U.heap.size A5 KE.length c5) #[(0, .tmp 87), (1, .tmp 90)] rfl (by kernel_rfl)) _ (by conv => lhs; arg 2; whnf) ⟨HSA.out _ hU2, ?_⟩
       try simp only [Act.put, sI, sS, sZ]
       refine anyH_op 7 (by kernel_rfl) rfl rfl ?_
       have hz2 : Blk U2 w.heap.size 33 zWk := HZ3.out.below hU2 HG14.out.1
       have hx2 : Blk U2 U.heap.size 57 (vb bn) := hblU1.below hbU2 hblU1.lt
       obtain ⟨R, eR⟩ : ∃ R, R = U2.setRow w.heap.size #[.slice (some ⟨U.heap.size, 0, none⟩) 1 1, .slice A5 KE.length c5] := ⟨_, rfl⟩
       have hRO : Only (fun i => i = w.heap.size) U2 R := by rw [eR]; exact setRow_only _ _ _
       have hRb : Blk R w.heap.size 33 #[.slice (some ⟨U.heap.size, 0, none⟩) 1 1, .slice A5 KE.length c5] := by rw [eR]; exact setRow_heap _ _ zWk _ 33 (0, 0) hz2
       have hSR : AtA R ⟨g14, 2, none⟩ (byt bn) := fun j u hu => by
        rw [← HSA.out _ hU2 j u hu]
        exact World.cell?_of_block (by rw [add_block]; exact hRO.block g14 (jH HG14.out.2.1 hU2.size) (fun e => HG14.out.2.2 e.symm))
       refine wp_store_row 33 (.tmp 10) (.tmp 91) rfl w.heap.size #[.slice (some ⟨U.heap.size, 0, none⟩) 1 1, .slice A5 KE.length c5] rfl rfl 33 zWk hz2 (wkSz _ _) rfl (by simp [Value.oneCell']) ?_
       rw [← eR]
       have hbR : Below w.heap.size w R := by
        rw [eR]
        exact (HBW.out.trans ((HB3.out.trans (hU2.mono HB3.out.size)).mono HBW.out.size)).trans (below_setRowP _ _ _ (jD _))
       clear eR
       refine ⟨hSR, ?_⟩
       conv => arg 8; whnf
       try simp only [Act.put, sI, sS, sZ]
       refine anyH_quiet 8 rfl (by kernel_rfl) (by kernel_rfl) (by kernel_rfl) (fun _ _ _ _ h => h) rfl rfl hSR ?_
       intro K hK
       conv => arg 2; whnf
       go_big_quiet_op
       try first | refine ⟨_, fun _ _ => rfl, ?_⟩ | refine ⟨_, fun _ _ _ => rfl, ?_⟩
       go_big_quiet_on
       try simp only [Act.put, sI, sS, sZ]
       refine anyH_quiet 9 rfl (by kernel_rfl) (by kernel_rfl) (by kernel_rfl) (fun _ _ _ _ h => h) rfl rfl hSR ?_
       intro K hK
       conv => arg 2; whnf
       go_big_quiet_op
       try first | refine ⟨_, fun _ _ => rfl, ?_⟩ | refine ⟨_, fun _ _ _ => rfl, ?_⟩
       go_big_quiet_on
       try simp only [Act.put, sI, sS, sZ]
       refine wpAnyH_done (by kernel_rfl) ?_ _
       go_wp2_with fail
       try rw [Exit.noGoto_ret]
       refine bodyPost_ret (results_row_tmp2N rfl _ _ w.heap.size 33 #[.slice (some ⟨U.heap.size, 0, none⟩) 1 1, .slice A5 KE.length c5] (0, 0) _ rfl hRb Tryz.underlying33 rfl (wkSz _ _)) rfl ?_
       have hxR : Blk R U.heap.size 57 (vb bn) := (hRO.block U.heap.size hx2.lt (by have := HG14.out.1; have := hU.size; have := hU1.size; omega)).trans hx2
       have hszR : U2.heap.size ≤ R.heap.size := hRO.size
       refine NxB.mk [bn] KE true (some ⟨U.heap.size, 0, none⟩) 1 A5 c5 rfl HNX.out (fun n e => by injection e with e _; subst e; exact ⟨_, rfl, rfl, hxR⟩) ((rdN_oneB hxR).more hxR.lt) ?_ hc5 hbR
       intro hne
       obtain ⟨ad5, e5, hb5, hat5⟩ := (show Rd U2 U2.heap.size A5 (pcs KE) from r5) hne
       have hge := own_new hok rfl ad5 e5
       refine ⟨ad5, e5, jH hb5 hszR, fun j u hu => ?_⟩
       rw [← hat5 j u hu]
       exact World.cell?_of_block (by rw [add_block]; exact hRO.block ad5.block hb5 (by have := HG14.out.1; have := hU.size; have := hU1.size; omega))
      ·refine op_call (by kernel_rfl) _ (fun v => by conv => lhs; arg 2; whnf) ((HKC.out U hU).mono ?_)
       rintro e U1 ⟨vk, rfl, hok, hbU1⟩
       obtain ⟨A5, c5, rfl, hc5, _, r5⟩ := hok.rd
       have hU1 : Below W3.heap.size W3 U1 := hU.trans (hbU1.mono hU.size)
       refine ⟨_, rfl, HSA.out _ hU1, ?_⟩
       try simp only [Act.put, sI, sS, sZ]
       refine anyH_op 2 (by kernel_rfl) rfl rfl ?_
       have hU2 : Below W3.heap.size W3 (U1.alloc (.cells (vb bn) 57)) := hU1.alloc hU1.size _
       refine op_value (run_oneG Tryz.underlying30 hig hg0 hg1x (by decide) (by decide) U1 (vb bn) hbsz (.tmp 86) rfl rfl) _ (by conv => lhs; arg 2; whnf) ⟨HSA.out _ hU2, ?_⟩
       try simp only [Act.put, sI, sS, sZ]
       have hblU2 : Blk (U1.alloc (.cells (vb bn) 57)) U1.heap.size 57 (vb bn) := Blk.new _ _ _
       have hbsU2 : Below U1.heap.size U1 (U1.alloc (.cells (vb bn) 57)) := (jE _ _).alloc (jD _) _
       generalize U1.alloc (.cells (vb bn) 57) = U2 at *
       refine anyH_op 6 (by kernel_rfl) rfl rfl ?_
       refine op_value (run_built _ 33 [(0, .slice (some ⟨U1.heap.size, 0, none⟩) 1 1), (1, .slice A5 KE.length c5)] _ (built_wk U1.heap.size A5 KE.length c5) #[(0, .tmp 87), (1, .tmp 90)] rfl (by kernel_rfl)) _ (by conv => lhs; arg 2; whnf) ⟨HSA.out _ hU2, ?_⟩
       try simp only [Act.put, sI, sS, sZ]
       refine anyH_op 7 (by kernel_rfl) rfl rfl ?_
       have hz2 : Blk U2 w.heap.size 33 zWk := HZ3.out.below hU2 HG14.out.1
       have hx2 : Blk U2 U1.heap.size 57 (vb bn) := hblU2
       obtain ⟨R, eR⟩ : ∃ R, R = U2.setRow w.heap.size #[.slice (some ⟨U1.heap.size, 0, none⟩) 1 1, .slice A5 KE.length c5] := ⟨_, rfl⟩
       have hRO : Only (fun i => i = w.heap.size) U2 R := by rw [eR]; exact setRow_only _ _ _
       have hRb : Blk R w.heap.size 33 #[.slice (some ⟨U1.heap.size, 0, none⟩) 1 1, .slice A5 KE.length c5] := by rw [eR]; exact setRow_heap _ _ zWk _ 33 (0, 0) hz2
       have hSR : AtA R ⟨g14, 2, none⟩ (byt bn) := fun j u hu => by
        rw [← HSA.out _ hU2 j u hu]
        exact World.cell?_of_block (by rw [add_block]; exact hRO.block g14 (jH HG14.out.2.1 hU2.size) (fun e => HG14.out.2.2 e.symm))
       refine wp_store_row 33 (.tmp 10) (.tmp 91) rfl w.heap.size #[.slice (some ⟨U1.heap.size, 0, none⟩) 1 1, .slice A5 KE.length c5] rfl rfl 33 zWk hz2 (wkSz _ _) rfl (by simp [Value.oneCell']) ?_
       rw [← eR]
       have hbR : Below w.heap.size w R := by
        rw [eR]
        exact (HBW.out.trans ((HB3.out.trans (hU2.mono HB3.out.size)).mono HBW.out.size)).trans (below_setRowP _ _ _ (jD _))
       clear eR
       refine ⟨hSR, ?_⟩
       conv => arg 8; whnf
       try simp only [Act.put, sI, sS, sZ]
       refine anyH_quiet 8 rfl (by kernel_rfl) (by kernel_rfl) (by kernel_rfl) (fun _ _ _ _ h => h) rfl rfl hSR ?_
       intro K hK
       conv => arg 2; whnf
       go_big_quiet_op
       try first | refine ⟨_, fun _ _ => rfl, ?_⟩ | refine ⟨_, fun _ _ _ => rfl, ?_⟩
       go_big_quiet_on
       try simp only [Act.put, sI, sS, sZ]
       refine anyH_quiet 9 rfl (by kernel_rfl) (by kernel_rfl) (by kernel_rfl) (fun _ _ _ _ h => h) rfl rfl hSR ?_
       intro K hK
       conv => arg 2; whnf
       go_big_quiet_op
       try first | refine ⟨_, fun _ _ => rfl, ?_⟩ | refine ⟨_, fun _ _ _ => rfl, ?_⟩
       go_big_quiet_on
       try simp only [Act.put, sI, sS, sZ]
       refine wpAnyH_done (by kernel_rfl) ?_ _
       go_wp2_with fail
       try rw [Exit.noGoto_ret]
       refine bodyPost_ret (results_row_tmp2N rfl _ _ w.heap.size 33 #[.slice (some ⟨U1.heap.size, 0, none⟩) 1 1, .slice A5 KE.length c5] (0, 0) _ rfl hRb Tryz.underlying33 rfl (wkSz _ _)) rfl ?_
       have hxR : Blk R U1.heap.size 57 (vb bn) := (hRO.block U1.heap.size hx2.lt (by have := HG14.out.1; have := hU.size; have := hU1.size; omega)).trans hx2
       have hszR : U2.heap.size ≤ R.heap.size := hRO.size
       refine NxB.mk [bn] KE true (some ⟨U1.heap.size, 0, none⟩) 1 A5 c5 rfl HNX.out (fun n e => by injection e with e _; subst e; exact ⟨_, rfl, rfl, hxR⟩) ((rdN_oneB hxR).more hxR.lt) ?_ hc5 hbR
       intro hne
       obtain ⟨ad5, e5, hb5, hat5⟩ := (show Rd U2 U2.heap.size A5 (pcs KE) from (Rd.below (show Rd U1 U1.heap.size A5 (pcs KE) from r5) hbsU2).more hbsU2.size) hne
       have hge := own_new hok rfl ad5 e5
       refine ⟨ad5, e5, jH hb5 hszR, fun j u hu => ?_⟩
       rw [← hat5 j u hu]
       exact World.cell?_of_block (by rw [add_block]; exact hRO.block ad5.block hb5 (by have := HG14.out.1; have := hU.size; have := hU1.size; omega))
     | false =>
      rw [he] at HEAB
      have HLA2 : Hid (LateO os h (i + 1)) := Li (fun j hj => by
       rcases Nat.lt_or_ge j i with h2 | h2
       ·exact HLA.out j h2
       ·obtain rfl : j = i := by omega
        rw [HM.out]; exact he)
      have HLS := Li (show lastO os (i + 1) = m from HM.out)
      clear he
      obtain ⟨la, hla⟩ : ∃ la, la = lastO os i := ⟨_, rfl⟩
      have HLAE := Li hla
      rw [← hla] at HC17 HR17 HLO ⊢
      clear hla
      have HR173 := Li (fun (W : World) (hb : Below wr.heap.size wr W) => show RdP W W.heap.size A17 la from (Rd.below (show Rd wr wr.heap.size A17 (pcs la) from HR17.out) hb).more hb.size)
      have hlaL : la.length ≤ 1000 := HLO.out.1
      go_upto_region 21 with (first
       | (go_at_call 22; (refine (HOPY.out _).mono ?_); rintro e W2 ⟨v, rfl, ho, hb⟩; obtain ⟨Am, cm, rfl, hcm, _, hrm⟩ := ho.rd; have HB2 := Li (HBY.out.trans (hb.mono HBY.out.size)); have HY2 := Li (HY1.out.trans (hb.mono HY1.out.size)); have HZ2 := Li (HZY.out.below hb HZY.out.lt); have HXB2 := Li (HXB.out.below hb HXB.out.lt); have HRM2 := Li (show RdP W2 W2.heap.size Am m from hrm); have HCM := Li hcm; clear ho hb hrm hcm)
       | (go_at_call 24; (with_reducible refine (HEAB.out W2 Am cm HRM2.out).mono ?_); rintro e W3 ⟨rfl, hb⟩; have HB3 := Li (HB2.out.trans (hb.mono HB2.out.size)); have HY3 := Li (HY2.out.trans (hb.mono HY2.out.size)); have HZ3 := Li (HZ2.out.below hb HZ2.out.lt); have HXB3 := Li (HXB2.out.below hb HXB2.out.lt); have HRM3 := Li (show RdP W3 W3.heap.size Am m from (Rd.below (show Rd W2 W2.heap.size Am (pcs m) from HRM2.out) hb).more hb.size); clear hb)
       | (refine wpList_valM rfl _ _ (run_l2N W3 A17 la.length c17 Am m.length cm (.tmp 92) (.tmp 93) rfl rfl rfl) ?_)
       | (go_at_call 25; (refine (HMC.out la m _ _ (lists2N HC17.out HCM.out (HR173.out W3 HY3.out) HRM3.out) HLO.out HMLN.out).mono ?_); rintro e W5 ⟨v, rfl, ho, hb⟩; obtain ⟨Aj, cj, rfl, hcj, _, _⟩ := ho.rd; have hal : Below W3.heap.size W3 W5 := ((jE _ _).alloc (jD _) _).trans (hb.mono (by simp)); have HB5 := Li (HB3.out.trans (hal.mono HB3.out.size)); have HY5 := Li (HY3.out.trans (hal.mono HY3.out.size)); have HXB5 := Li (HXB3.out.below hal HXB3.out.lt); have HRM5 := Li ((Rd.below (show Rd W3 W3.heap.size Am (pcs m) from HRM3.out) hal).more hal.size); have HOJ := Li (own_base_le ho (show W1.heap.size ≤ _ by have := HB3.out.size; simp; omega)); clear ho hb hal hcj))
      clear HOPY HZY HXB c1 HB2 HY2 HZ2 HXB2 HRM2 HB3 HY3 HZ3 HXB3 HRM3
      obtain ⟨J, hJ⟩ : ∃ J, J = mergeL (la ++ m) := ⟨_, rfl⟩
      rw [← hJ] at HOJ ⊢
      have HJE := Li hJ
      have hJl : J.length ≤ 2000 := by
       have h1 := merge_len (la ++ m)
       rw [← hJ, jC] at h1
       omega
      clear hJ
      rcases HBO.out with ⟨rfl, hw⟩ | ⟨gq, bq, Aq, cq, j, rfl, hq1, hq2, hq3, hq4, hq5, hq6, hq7, hq8⟩
      ·have HW := Li hw
       clear hw
       by_cases hi0 : i = 0
       ·subst hi0
        go_wp2_with fail
        go_roundw
        case rel => exact ⟨0 + 1, HLT.out, by go_num, ⟨Am, cm, by rw [HLS.out], by rw [HLS.out]; exact HCM.out, by rw [HLS.out]; exact HRM5.out⟩, Li (.inl ⟨rfl, .inr (fun j hj => absurd hj (Nat.not_lt_zero _))⟩), HLA2, HB5.out⟩
        case measure => have := HLT.out; simp only [intOf]; omega
       ·have s1 : ((i : Int) == 0) = false := by simp; omega
        have s2 : ¬ (i : Int) = 0 := by omega
        by_cases h4 : N ≤ 4
        ·have r4 : (N : Int) ≤ 4 := by omega
         have HN4 := Li h4
         clear hi0 h4
         go_wp2_with fail
         go_roundw
         case rel => exact ⟨i + 1, HLT.out, by go_num, ⟨Am, cm, by rw [HLS.out], by rw [HLS.out]; exact HCM.out, by rw [HLS.out]; exact HRM5.out⟩, Li (.inl ⟨rfl, .inl (by rw [HOL.out]; exact HN4.out)⟩), HLA2, HB5.out⟩
         case measure => have := HLT.out; simp only [intOf]; omega
        ·have r4 : ¬ (N : Int) ≤ 4 := by omega
         have HW4 := Li (show WideO os (i - 1) from HW.out.resolve_left (by rw [HOL.out]; exact h4))
         have HN4 := Li (show 4 < os.length by rw [HOL.out]; omega)
         have HJN := Li (show jnL os (i - 1) = J by
          unfold jnL
          rw [show i - 1 + 1 = i by omega, HJE.out, HLAE.out, HM.out]
          obtain ⟨k, rfl⟩ : ∃ k, i = k + 1 := ⟨i - 1, by omega⟩
          rfl)
         by_cases hj : 32 < J.length
         ·have r5 : (32 : Int) < (J.length : Int) := by omega
          have HJ5 := Li hj
          have HBD : Hid (BothO os W1.heap.size (i + 1) (.pointer none) W5) := Li (.inl ⟨rfl, .inr (fun j hj => by
           have hj2 : j < i := hj
           rcases Nat.lt_or_ge j (i - 1) with h2 | h2
           ·exact HW4.out j h2
           ·obtain rfl : j = i - 1 := by omega
            rw [HJN.out]; exact HJ5.out)⟩)
          clear hi0 h4 hj
          go_wp2_with fail
          go_roundw
          case rel => exact ⟨i + 1, HLT.out, by go_num, ⟨Am, cm, by rw [HLS.out], by rw [HLS.out]; exact HCM.out, by rw [HLS.out]; exact HRM5.out⟩, HBD, HLA2, HB5.out⟩
          case measure => have := HLT.out; simp only [intOf]; omega
         ·have r5 : ¬ (32 : Int) < (J.length : Int) := by omega
          have HJ5 := Li (show J.length ≤ 32 by omega)
          have hi1 : i - 1 < N := by omega
          obtain ⟨k, hk⟩ : ∃ k, k = i - 1 := ⟨_, rfl⟩
          rw [← hk] at HJN HW4 hi1
          have HIK := Li (show i = k + 1 by omega)
          have e1 : (i : Int) - 1 = (k : Int) := by omega
          have r6 : (k : Int) < (N : Int) := by omega
          have m2 : (k : Int) ≤ 10000000 := by omega
          clear hi0 h4 hj hk
          obtain ⟨ad2, Ak, ck, ead, habk, hatk, hck, hrk, hbok⟩ := HX1.out.box (show k < bs1.length by rw [← HN.out]; exact hi1)
          injection ead with ead
          subst ead
          have hgk := HOG.out k hi1
          obtain ⟨nk, hnk⟩ : ∃ x, x = (bs1.getD k bo0).nn := ⟨_, rfl⟩
          have hnkl : nk.length = 12 := by rw [hnk]; exact hbok.nl
          have hanK := atA_nnB hatk hbok.nl
          rw [← hnk] at hanK
          have HNK := Li (show (os.getD k gr0).nn = nk by rw [hgk, hnk]; rfl)
          have habsk : (ad.add (k * 15)).block < W1.heap.size := by rw [add_block]; exact habk
          have HNKL := Li (show (Tryz.prog.info? 57).map (·.size) = some (byt nk).length by rw [byt_len, hnkl]; kernel_rfl)
          have HSK := Li (show (vb nk).size = 12 by rw [vb_size, hnkl])
          have HSB := Li (show (vb bn).size = 12 by rw [vb_size, HNL.out])
          have HSF := Li (fun (W : World) (hb : Below W5.heap.size W5 W) => show AtA W ⟨(ad.add (k * 15)).block, (ad.add (k * 15)).off + 2, none⟩ (byt nk) ∧ AtA W ⟨g14, 2, none⟩ (byt bn) from ⟨AtA.below hanK (HB5.out.trans (hb.mono HB5.out.size)) habsk, AtA.below (bx_nn HXB5.out HNL.out) hb HXB5.out.lt⟩)
          clear hatk hck hrk hbok hgk hnk hnkl hanK habsk habk hi1
          go_upto_region 22 with fail
          have hS0 := HSF.out W5.drew (jE _ _).drew
          refine wp_region_held (S := fun W => AtA W ⟨(ad.add (k * 15)).block, (ad.add (k * 15)).off + 2, none⟩ (byt nk) ∧ AtA W ⟨g14, 2, none⟩ (byt bn)) (by kernel_rfl) ?_
          show wpAnyH _ _ _ _ _ 13 _ _ W5.drew
          refine anyH_quiet 0 rfl (by kernel_rfl) (by kernel_rfl) (by kernel_rfl) (fun _ _ _ _ h => h) rfl rfl hS0 ?_
          intro K hK
          conv => arg 2; whnf
          go_big_quiet_op
          try first | refine ⟨_, fun _ _ => rfl, ?_⟩ | refine ⟨_, fun _ _ _ => rfl, ?_⟩
          go_big_quiet_on
          try simp only [Act.put, sI, sS, sZ]
          refine anyH_quiet 1 rfl (by kernel_rfl) (by kernel_rfl) (by kernel_rfl) (fun _ _ _ _ h => h) rfl rfl hS0 ?_
          intro K hK
          conv => arg 2; whnf
          go_big_quiet_op
          try first | refine ⟨_, fun _ _ => rfl, ?_⟩ | refine ⟨_, fun _ _ _ => rfl, ?_⟩
          go_big_quiet_on
          try simp only [Act.put, sI, sS, sZ]
          refine anyH_quiet 2 rfl (by kernel_rfl) (by kernel_rfl) (by kernel_rfl) (fun _ _ _ _ h => h) rfl rfl hS0 ?_
          intro K hK
          conv => arg 2; whnf
          go_big_quiet_op
          try first | refine ⟨_, fun _ _ => rfl, ?_⟩ | refine ⟨_, fun _ _ _ => rfl, ?_⟩
          go_big_quiet_on
          try simp only [Act.put, sI, sS, sZ]
          refine anyH_quiet 3 rfl (by kernel_rfl) (by kernel_rfl) (by kernel_rfl) (fun _ _ _ _ h => h) rfl rfl hS0 ?_
          intro K hK
          conv => arg 2; whnf
          go_big_quiet_op
          try first | refine ⟨_, fun _ _ => rfl, ?_⟩ | refine ⟨_, fun _ _ _ => rfl, ?_⟩
          go_big_quiet_on
          try simp only [Act.put, sI, sS, sZ]
          refine anyH_quiet 4 rfl (by kernel_rfl) (by kernel_rfl) (by kernel_rfl) (fun _ _ _ _ h => h) rfl rfl hS0 ?_
          intro K hK
          conv => arg 2; whnf
          go_big_quiet_op
          try first | refine ⟨_, fun _ _ => rfl, ?_⟩ | refine ⟨_, fun _ _ _ => rfl, ?_⟩
          go_big_quiet_on
          try simp only [Act.put, sI, sS, sZ]
          refine anyH_quiet 5 rfl (by kernel_rfl) (by kernel_rfl) (by kernel_rfl) (fun _ _ _ _ h => h) rfl rfl hS0 ?_
          intro K hK
          conv => arg 2; whnf
          refine quiet_loadA 57 (.tmp 117) rfl ⟨(ad.add (k * 15)).block, (ad.add (k * 15)).off + 2, none⟩ rfl (byt nk) _ (fun _ h => h.1) Tryz.underlying57 rfl HNKL.out _ (by conv => lhs; arg 2; whnf) ?_
          try first | refine ⟨_, fun _ _ => rfl, ?_⟩ | refine ⟨_, fun _ _ _ => rfl, ?_⟩
          go_big_quiet_on
          try simp only [Act.put, sI, sS, sZ]
          refine anyH_quiet 6 rfl (by kernel_rfl) (by kernel_rfl) (by kernel_rfl) (fun _ _ _ _ h => h) rfl rfl hS0 ?_
          intro K hK
          conv => arg 2; whnf
          go_big_quiet_op
          try first | refine ⟨_, fun _ _ => rfl, ?_⟩ | refine ⟨_, fun _ _ _ => rfl, ?_⟩
          go_big_quiet_on
          try simp only [Act.put, sI, sS, sZ]
          refine anyH_quiet 7 rfl (by kernel_rfl) (by kernel_rfl) (by kernel_rfl) (fun _ _ _ _ h => h) rfl rfl hS0 ?_
          intro K hK
          conv => arg 2; whnf
          refine quiet_loadA 57 (.tmp 119) rfl ⟨g14, 2, none⟩ rfl (byt bn) _ (fun _ h => h.2) Tryz.underlying57 rfl HNNL.out _ (by conv => lhs; arg 2; whnf) ?_
          try first | refine ⟨_, fun _ _ => rfl, ?_⟩ | refine ⟨_, fun _ _ _ => rfl, ?_⟩
          go_big_quiet_on
          try simp only [Act.put, sI, sS, sZ]
          refine anyH_quiet 9 rfl (by kernel_rfl) (by kernel_rfl) (by kernel_rfl) (fun _ _ _ _ h => h) rfl rfl hS0 ?_
          intro K hK
          conv => arg 2; whnf
          go_big_quiet_op
          try first | refine ⟨_, fun _ _ => rfl, ?_⟩ | refine ⟨_, fun _ _ _ => rfl, ?_⟩
          go_big_quiet_on
          try simp only [Act.put, sI, sS, sZ]
          have hU : Below W5.heap.size W5 W5.drew := (jE _ _).drew
          generalize W5.drew = U at *
          clear hS0
          have hU1 : Below W5.heap.size W5 (U.alloc (.cells (vb nk ++ vb bn) 57)) := hU.alloc hU.size _
          refine anyH_op 8 (by kernel_rfl) rfl rfl ?_
          refine op_value (run_twoG Tryz.underlying30 hig hg0 hg1x (by decide) (by decide) U (vb nk) (vb bn) HSK.out HSB.out (.tmp 118) (.tmp 120) rfl rfl rfl) _ (by conv => lhs; arg 2; whnf) ⟨HSF.out _ hU1, ?_⟩
          try simp only [Act.put, sI, sS, sZ]
          have hblU1 : Blk (U.alloc (.cells (vb nk ++ vb bn) 57)) U.heap.size 57 (vb nk ++ vb bn) := Blk.new _ _ _
          generalize U.alloc (.cells (vb nk ++ vb bn) 57) = U1 at *
          refine anyH_op 10 (by kernel_rfl) rfl rfl ?_
          refine op_value (run_built _ 33 [(0, .slice (some ⟨U.heap.size, 0, none⟩) 2 2), (1, .slice Aj J.length cj)] _ (built_wk2 U.heap.size Aj J.length cj) #[(0, .tmp 121), (1, .tmp 122)] rfl (by kernel_rfl)) _ (by conv => lhs; arg 2; whnf) ⟨HSF.out _ hU1, ?_⟩
          try simp only [Act.put, sI, sS, sZ]
          have hU2 : Below W5.heap.size W5 (U1.alloc (.cells #[.slice (some ⟨U.heap.size, 0, none⟩) 2 2, .slice Aj J.length cj] 33)) := hU1.alloc hU1.size _
          refine anyH_op 11 (by kernel_rfl) rfl rfl ?_
          refine op_value (run_boxN U1 33 (.tmp 123) rfl #[.slice (some ⟨U.heap.size, 0, none⟩) 2 2, .slice Aj J.length cj] rfl) _ (by conv => lhs; arg 2; whnf) ⟨HSF.out _ hU2, ?_⟩
          try simp only [Act.put, sI, sS, sZ]
          have hblU2 : Blk (U1.alloc (.cells #[.slice (some ⟨U.heap.size, 0, none⟩) 2 2, .slice Aj J.length cj] 33)) U1.heap.size 33 #[.slice (some ⟨U.heap.size, 0, none⟩) 2 2, .slice Aj J.length cj] := Blk.new _ _ _
          have hbU12 : Below U1.heap.size U1 (U1.alloc (.cells #[.slice (some ⟨U.heap.size, 0, none⟩) 2 2, .slice Aj J.length cj] 33)) := (jE _ _).alloc (jD _) _
          generalize U1.alloc (.cells #[.slice (some ⟨U.heap.size, 0, none⟩) 2 2, .slice Aj J.length cj] 33) = U2 at *
          have hS2 := HSF.out U2 hU2
          refine anyH_quiet 12 rfl (by kernel_rfl) (by kernel_rfl) (by kernel_rfl) (fun _ _ _ _ h => h) rfl rfl hS2 ?_
          intro K hK
          conv => arg 2; whnf
          go_big_quiet_op
          try first | refine ⟨_, fun _ _ => rfl, ?_⟩ | refine ⟨_, fun _ _ _ => rfl, ?_⟩
          go_big_quiet_on
          try simp only [Act.put, sI, sS, sZ]
          have HBU2 := Li (HB5.out.trans (hU2.mono HB5.out.size))
          have HBNX := Li (show BothO os W1.heap.size (i + 1) (.pointer (some ⟨U1.heap.size, 0, none⟩)) U2 from .inr ⟨U1.heap.size, U.heap.size, Aj, cj, k, rfl, by rw [HJN.out]; exact hblU2, by rw [← HIK.out, HNK.out, HMNN.out]; exact hblU1.below hbU12 hblU1.lt, by rw [HJN.out]; exact OwnP.next HOJ.out hU2, ⟨Nat.le_trans HB5.out.size hU1.size, Nat.le_trans HB5.out.size hU.size⟩, HN4.out, by have := HIK.out; omega, HW4.out, by rw [HJN.out]; exact HJ5.out⟩)
          have HRM6 := Li ((Rd.below (show Rd W5 W5.heap.size Am (pcs m) from HRM5.out) hU2).more hU2.size)
          refine wpAnyH_done (by kernel_rfl) ?_ _
          clear hS2 hU hU1 hU2 hblU1 hblU2 hbU12 e1
          generalize U1.heap.size = gU1 at *
          go_wp2_with fail
          go_roundw
          case rel => exact ⟨i + 1, HLT.out, by go_num, ⟨Am, cm, by rw [HLS.out], by rw [HLS.out]; exact HCM.out, by rw [HLS.out]; exact HRM6.out⟩, HBNX, HLA2, HBU2.out⟩
          case measure => have := HLT.out; simp only [intOf]; omega
      ·have s1 : ((i : Int) == 0) = false := by simp; omega
       have s2 : ¬ (i : Int) = 0 := by omega
       have HBN := Li (show BothO os W1.heap.size (i + 1) (.pointer (some ⟨gq, 0, none⟩)) W5 from BothO.next (W := wr) (.inr ⟨gq, bq, Aq, cq, j, rfl, hq1, hq2, hq3, hq4, hq5, by omega, hq7, hq8⟩) HY5.out)
       clear hq1 hq2 hq3 hq4 hq5 hq6 hq7 hq8
       go_wp2_with fail
       go_roundw
       case rel => exact ⟨i + 1, HLT.out, by go_num, ⟨Am, cm, by rw [HLS.out], by rw [HLS.out]; exact HCM.out, by rw [HLS.out]; exact HRM5.out⟩, HBN, HLA2, HB5.out⟩
       case measure => have := HLT.out; simp only [intOf]; omega
    ·obtain rfl : N = i := by omega
     have HLN := Li (show LateO os h os.length by rw [HOL.out]; exact HLA.out)
     have HZR := Li (show Blk wr w.heap.size 33 zWk from HZ1.out.below HB.out HZ1.out.lt)
     clear hlt hi
     rcases HBO.out with ⟨rfl, hw⟩ | ⟨gq, bq, Aq, cq, j, rfl, hq1, hq2, hq3, hq4, hq5, hq6, hq7, hq8⟩
     ·have HW := Li (show os.length ≤ 4 ∨ WideO os (os.length - 1) by rw [HOL.out]; rw [HOL.out] at hw; exact hw)
      clear hw
      go_wp2_with (first
       | (refine wpList_valG (by kernel_rfl) (.agg zWk) (by exact run_built _ 33 [] _ built_wk0 #[] rfl (by kernel_rfl)) ?_)
       | (refine wpList_store_rowTo rfl 33 (.tmp 10) (.tmp 128) rfl rfl w.heap.size zWk rfl rfl 33 zWk (by exact HZR.out) (wkSz _ _) rfl (by simp [zWk, Value.oneCell']) ?_))
      try rw [Exit.noGoto_ret]
      have hRb : Blk (wr.setRow w.heap.size zWk) w.heap.size 33 zWk := setRow_heap _ _ zWk _ 33 (0, 0) HZR.out
      refine bodyPost_ret (results_row_tmp2N rfl _ _ w.heap.size 33 zWk (0, 0) _ rfl hRb Tryz.underlying33 rfl (wkSz _ _)) rfl ?_
      exact NxB.mk [] [] false none 0 none 0 rfl (.none HFO.out HLN.out HW.out) (fun n e => by cases e) (fun h0 => absurd rfl h0) (fun h0 => absurd rfl h0) (jD _) ((HBW.out.trans (HB.out.mono HBW.out.size)).trans (below_setRowP _ _ _ (jD _)))
     ·obtain ⟨_, _, e9, hc9, _, r9⟩ := hq3.rd
      injection e9 with e9a _ e9c
      subst e9a e9c
      have HQ := Li (show NxD os ep h [(os.getD j gr0).nn, (os.getD (j + 1) gr0).nn] (jnL os j) true from .joint HFO.out HLN.out hq5 j (by rw [HOL.out]; omega) hq7 hq8)
      obtain ⟨J, hJ⟩ : ∃ J, J = jnL os j := ⟨_, rfl⟩
      rw [← hJ] at hq1 hq3 hc9 r9 HQ
      obtain ⟨n1, hn1⟩ : ∃ x, x = (os.getD j gr0).nn := ⟨_, rfl⟩
      obtain ⟨n2, hn2⟩ : ∃ x, x = (os.getD (j + 1) gr0).nn := ⟨_, rfl⟩
      rw [← hn1, ← hn2] at hq2 HQ
      have hown := own_new hq3 rfl
      have HZL := Li (show w.heap.size < W1.heap.size from HZ1.out.lt)
      have H1 := Li hq1
      have H2 := Li hq2
      have H4 := Li hq4
      have H9 := Li (And.intro hc9 r9)
      have HOW := Li hown
      clear hq1 hq2 hq3 hq4 hq5 hq6 hq7 hq8 hc9 r9 hJ hn1 hn2 hown
      have hat := atA_blk (cs := [.slice (some ⟨bq, 0, none⟩) 2 2, .slice Aq J.length cq]) H1.out
      have HAQ := Li hat
      clear hat
      go_wp2_with (first
       | (refine wpList_loadA rfl 33 (.tmp 130) rfl ⟨gq, 0, none⟩ rfl [.slice (some ⟨bq, 0, none⟩) 2 2, .slice Aq J.length cq] _ HAQ.out Tryz.underlying33 rfl (by kernel_rfl) ?_)
       | (refine wpList_store_rowTo rfl 33 (.tmp 10) (.tmp 131) rfl rfl w.heap.size #[.slice (some ⟨bq, 0, none⟩) 2 2, .slice Aq J.length cq] rfl rfl 33 zWk (by exact HZR.out) (wkSz _ _) rfl (by simp [Value.oneCell']) ?_))
      try rw [Exit.noGoto_ret]
      obtain ⟨R, eR⟩ : ∃ R, R = wr.setRow w.heap.size #[.slice (some ⟨bq, 0, none⟩) 2 2, .slice Aq J.length cq] := ⟨_, rfl⟩
      have hRb : Blk R w.heap.size 33 #[.slice (some ⟨bq, 0, none⟩) 2 2, .slice Aq J.length cq] := by rw [eR]; exact setRow_heap _ _ zWk _ 33 (0, 0) HZR.out
      have hRO : Only (fun i => i = w.heap.size) wr R := by rw [eR]; exact setRow_only _ _ _
      have hbR : Below w.heap.size w R := by rw [eR]; exact (HBW.out.trans (HB.out.mono HBW.out.size)).trans (below_setRowP _ _ _ (jD _))
      rw [← eR]
      clear eR
      refine bodyPost_ret (results_row_tmp2N rfl _ _ w.heap.size 33 #[.slice (some ⟨bq, 0, none⟩) 2 2, .slice Aq J.length cq] (0, 0) _ rfl hRb Tryz.underlying33 rfl (wkSz _ _)) rfl ?_
      have hxR : Blk R bq 57 (vb n1 ++ vb n2) := (hRO.block bq H2.out.lt (by have := HZL.out; have := H4.out.2; omega)).trans H2.out
      refine NxB.mk [n1, n2] J true (some ⟨bq, 0, none⟩) 2 Aq cq rfl HQ.out (fun n e => by cases e) ((rdN_twoB hxR).more hxR.lt) ?_ H9.out.1 hbR
      intro hne
      obtain ⟨ad5, e5, hb5, hat5⟩ := (show Rd wr wr.heap.size Aq (pcs J) from H9.out.2) hne
      have hge := HOW.out ad5 e5
      refine ⟨ad5, e5, jH hb5 hRO.size, fun j u hu => ?_⟩
      rw [← hat5 j u hu]
      exact World.cell?_of_block (by rw [add_block]; exact hRO.block ad5.block hb5 (by have := HZL.out; omega))
def aP : Pc := ⟨ByteArray.mk #[97], 1, 0, 0, 0⟩
theorem aP_ck : ckP aP = true := by decide +kernel
theorem aP_ok : PcOk aP := ⟨by decide, by decide, by decide, by decide, by decide, by decide⟩
theorem aP_merge : mergeL [aP] = [aP] := merge_id (List.pairwise_singleton _ _) (fun p hp => by rw [List.mem_singleton.1 hp]; exact aP_ck)
theorem aP_chk : chkL [aP] = 0 := chk_small _ (List.pairwise_singleton _ _) (fun p hp => by rw [List.mem_singleton.1 hp]; exact aP_ck) (by decide)
theorem aP_seal : sealE tenT [aP] = 0 := by unfold sealE; rw [tenT_name]; exact aP_chk
theorem built_aP : Tryz.prog.built 77 [(0, .string (ByteArray.mk #[97])), (1, .int .i64 1)] = some (pcV aP) := by kernel_rfl
def nnA : List Nat := 5 :: List.replicate 11 0
theorem nnA_len : nnA.length = 12 := by simp [nnA]
theorem nnA_lt : ∀ c ∈ nnA, c < 256 := by
 intro c hc
 rcases List.mem_cons.1 hc with rfl | hc
 ·decide
 ·rw [List.eq_of_mem_replicate hc]; decide
theorem built_nnA : Tryz.prog.built 57 [(0, .int .u8 5)] = some (vb nnA) := by kernel_rfl
def aB : Bxo := ⟨tenT, 1, nnA, boxL (keyE 1) nnA tenT 1 [aP]⟩
theorem aB_ok : BoOk aB := ⟨nnA_len, nnA_lt, boxL_lt5 _ _ _ _ _ aP_chk, by decide⟩
theorem aB_op : opB kf3 aB = [aP] := by
 unfold opB aB
 simp only [show kf3 1 = some (keyE 1) from rfl]
 exact (open_sealed (keyE 1) nnA tenT 1 [aP] tenT_name aP_chk (fun p hp => by rw [List.mem_singleton.1 hp]; exact aP_ok)).2
theorem aB_opok : OpOk kf3 aB := by
 refine ⟨aB_ok, by decide, ?_, fun k hk => ?_, by rw [aB_op]; decide, fun p hp => ?_⟩
 ·have := boxL_le5 (keyE 1) nnA tenT 1 [aP] aP_chk (fun p hp => by rw [List.mem_singleton.1 hp]; exact aP_ok)
  show (boxL (keyE 1) nnA tenT 1 [aP]).length ≤ 100000
  omega
 ·have h1 : kf3 1 = some k := hk
  rw [show kf3 1 = some (keyE 1) from rfl] at h1
  injection h1 with h1
  subst h1
  exact ⟨keyE_len 1, keyE_lt (by decide), (open_sealed (keyE 1) nnA tenT 1 [aP] tenT_name aP_chk (fun p hp => by rw [List.mem_singleton.1 hp]; exact aP_ok)).1⟩
 ·rw [aB_op] at hp
  rw [List.mem_singleton.1 hp]
  exact ⟨aP_ok, by decide⟩
theorem aB_of : ofT tenT [aB] = aB :: [] := by
 unfold ofT
 rw [List.filter_cons, if_pos (show (aB.t.toList == tenT.toList) = true by rw [beq_iff_eq]; rfl), List.filter_nil]
theorem aB_kept : (keptL 0 (mergeL (opB kf3 aB))).length = 1 := by
 rw [aB_op, aP_merge]
 rfl
theorem blk_ne {w : World} {g g' : Nat} {T T' : TypeId} {cs cs' : Array Value} (h : Blk w g T cs) (h' : Blk w g' T' cs') (hs : cs.size ≠ cs'.size) : g ≠ g' := fun e => by
 subst e
 have h1 : w.heap[g]? = some (.cells cs T (0, 0)) := h
 have h2 : w.heap[g]? = some (.cells cs' T' (0, 0)) := h'
 rw [h1] at h2
 injection h2 with h2
 injection h2 with h2
 exact hs (by rw [h2])
theorem awake29_c (w : World) (hq : QuartersAt w) : Calls Tryz.prog 6 #[] w (Yes w) := by
 have zf := zero_ch
 have zs1 : zCh.size = 45 := by rfl
 have zs2 : ¬ zCh = #[] := by intro h; have := congrArg Array.size h; rw [zs1] at this; cases this
 have zf2 := zero_wk
 have zs3 : zWk.size = 2 := by rfl
 have zs4 : ¬ zWk = #[] := by intro h; have := congrArg Array.size h; rw [zs3] at this; cases this
 have HQ := Li hq
 have HKC := Li (show Calls Tryz.prog 13 #[.int .u32 1] w fun en w' => en = .returned (.agg (vb (keyE 1))) ∧ Below w.heap.size w w' from key29_c 1 w (by decide))
 have HWC := Li (fun W (hb : Below w.heap.size w W) Ap cp (hr : RdP W W.heap.size Ap [aP]) (hc : 1 ≤ cp) => show Calls Tryz.prog 21 #[.agg (vb (keyE 1)), .agg (vb nnA), .string tenT, .int .u32 1, .slice Ap 1 cp] W fun e w' => ∃ g' cg' b, e = .returned (.tuple #[.agg (chV 5 (.slice g' 0 cg') (.slice (some ⟨b, 0, none⟩) 1 1)), .int .i64 0]) ∧ RdX w' (some ⟨b, 0, none⟩) [aB] ∧ Below W.heap.size W w' by
  have h := write29_c [aP] Ap cp (keyE 1) nnA tenT 1 W hr hc (by decide) (fun p hp => by rw [List.mem_singleton.1 hp]; exact ⟨aP_ok, by decide⟩) (keyE_len 1) (keyE_lt (by decide)) nnA_len nnA_lt (by decide) (by decide) (hq.next hb)
  rw [aP_merge] at h
  refine h.mono ?_
  rintro e w' ⟨hb2, h1⟩
  rcases h1 with ⟨h2, _⟩ | ⟨h2, _⟩ | ⟨_, _, h2, _⟩ | ⟨_, _, _, g', cg', b, e1, Ab, cb, hx, hbw, ho⟩
  ·cases h2
  ·exact absurd h2 (by decide)
  ·exact absurd aP_seal h2
  ·exact ⟨g', cg', b, e1, rdx_one (x := aB) hx ho aB_ok, hb2⟩)
 obtain ⟨KL, hKL⟩ : ∃ KL, KL = (keptL 0 (mergeL (opB kf3 aB))).length := ⟨_, rfl⟩
 have HKL := Li (show KL = 1 by rw [hKL]; exact aB_kept)
 have HNX0 := Li (fun U bw kb (hx : RdX U (some ⟨bw, 0, none⟩) [aB]) (hk : KeysAt U kb 3 (kmV kf3)) (hqU : QuartersAt U) => show Calls Tryz.prog 7 #[.map (some kb), .slice (some ⟨bw, 0, none⟩) 1 1, .string tenT, .int .u32 2, .int .i64 0] U fun e w' => ∃ b Av cv, e = .returned (.tuple #[.agg #[.slice (some ⟨b, 0, none⟩) 1 1, .slice Av KL cv], .bool true, .int .i64 0]) ∧ Blk w' b 57 (vb nnA) ∧ RdP w' w'.heap.size Av (keptL 0 (mergeL (opB kf3 aB))) ∧ Below U.heap.size U w' by
  rw [hKL]
  refine (next_c (some ⟨bw, 0, none⟩) 1 [aB] tenT kb 3 kf3 2 0 U hx (by decide) (fun b hb => by rw [List.mem_singleton.1 hb]; exact aB_opok.bs) hk (fun b hb => by rw [aB_of] at hb; rw [List.mem_singleton.1 hb]; exact ⟨aB_opok, by show kf3 1 ≠ none; intro h; cases h⟩) hqU).mono ?_
  rintro e w' ⟨gone, m, is, Ag, cg, Am, cm, rfl, hd, hs, _, h2, _, hb⟩
  rw [aB_of] at hd
  obtain ⟨rfl, rfl, rfl⟩ := hd.uniq (NxD.stale (os := [oG kf3 aB]) (ep := 2) (h := 0) 0 (by decide) (fun j hj => absurd hj (Nat.not_lt_zero _)) (by show 1 < 2; decide))
  obtain ⟨b, rfl, rfl, hx1⟩ := hs _ rfl
  exact ⟨b, Am, cm, rfl, hx1, h2, hb⟩)
 have HBP := Li built_aP
 have HBN := Li built_nnA
 obtain ⟨nA, hnA⟩ : ∃ nA, nA = nnA := ⟨_, rfl⟩
 have HNA := Li hnA
 rw [← hnA] at HWC HNX0 HBN
 obtain ⟨k1, hk1⟩ : ∃ k1, k1 = vb (keyE 1) := ⟨_, rfl⟩
 rw [← hk1] at HKC HWC
 have HNA12 := Li (show nA.length = 12 by rw [hnA]; exact nnA_len)
 have HNL := Li (show (Tryz.prog.info? 57).map (·.size) = some (byt nA).length by rw [byt_len, HNA12.out]; kernel_rfl)
 have l3 : ∀ W, (Op.equalIn 10000 57 (.agg (vb nA)) (.agg (vb nA))).run Tryz.prog W = .ok true W := fun W => by
  have h := run_equalIn_barr Tryz.underlying57 Tryz.underlying5 (by kernel_rfl) (by kernel_rfl) nA nA HNA12.out HNA12.out (by rw [hnA]; exact nnA_lt) (by rw [hnA]; exact nnA_lt) W
  rwa [show (nA == nA) = true by rw [beq_iff_eq]] at h
 have l4 : ∀ W, (Op.equalIn 10000 57 (.agg (byt nA).toArray) (.agg (vb nA))).run Tryz.prog W = .ok true W := l3
 have k1s : KL = 1 := HKL.out
 subst k1s
 clear hq hnA hk1 hKL HKL
 go_enter Tryz.func6, Tryz.ntmps6
 go_upto_region 2 with (first
  | (go_at_call 13; (with_reducible refine HKC.out.mono ?_); rintro e W1 ⟨rfl, hb⟩; have HB1 := Li hb; have HW1 := Li (HWC.out (W1.alloc (.cells (pcV aP) 77)) (hb.alloc hb.size _) (some ⟨W1.heap.size, 0, none⟩) 1 ((rd_new W1 (pcs [aP]) 77 (0, 0)).more (by simp)) (by decide)); clear hb)
  | (refine wpList_valG (by kernel_rfl) (.agg (vb nA)) (by exact run_built _ 57 [(0, .int .u8 5)] _ HBN.out #[(0, .const (.int .u8 5))] rfl (by kernel_rfl)) ?_)
  | (refine wpList_valG (by kernel_rfl) (.agg (pcV aP)) (by exact run_built _ 77 [(0, .string (ByteArray.mk #[97])), (1, .int .i64 1)] _ HBP.out #[(0, .const (.string (ByteArray.mk #[97]))), (1, .const (.int .i64 1))] rfl (by kernel_rfl)) ?_)
  | (refine wpList_valM rfl _ _ (run_onePc W1 aP (.tmp 9) rfl rfl) ?_)
  | (go_at_call 21; (refine HW1.out.mono ?_); rintro e W2 ⟨g', cg', bw, rfl, hrx, hb⟩; have HB2 := Li ((HB1.out.alloc HB1.out.size _).trans (hb.mono (by have := HB1.out.size; simp; omega))); have HRX := Li hrx; clear hb hrx)
  | (refine wpList_store_rowTo rfl 52 (.tmp 1) (.tmp 12) rfl rfl W2.heap.size (chV 5 (.slice g' 0 cg') (.slice (some ⟨bw, 0, none⟩) 1 1)) rfl rfl 52 zCh (by exact heap_alloc_new _ _) (chSz ..) rfl (ch_all ..) ?_))
 obtain ⟨W3, hW3⟩ : ∃ W3, W3 = (W2.alloc (Obj.cells zCh 52)).setRow W2.heap.size (chV 5 (.slice g' 0 cg') (.slice (some ⟨bw, 0, none⟩) 1 1)) := ⟨_, rfl⟩
 have hnr := new_rowP W2 52 zCh (chV 5 (.slice g' 0 cg') (.slice (some ⟨bw, 0, none⟩) 1 1))
 rw [← hW3] at hnr ⊢
 have c43 : W3.cell? ⟨W2.heap.size, 43, none⟩ = some (.slice (some ⟨bw, 0, none⟩) 1 1) := (hnr.1.cell 43).trans rfl
 have HB3 := Li (HB2.out.trans (hnr.2.mono HB2.out.size))
 have HNX := Li (fun U (hb : Below W3.heap.size W3 U) kb (hk : KeysAt U kb 3 (kmV kf3)) => HNX0.out U bw kb ((HRX.out.next hnr.2).next hb) hk ((HQ.out.next HB3.out).next hb))
 clear hnr hW3 HKC HWC HW1 HRX HNX0
 obtain ⟨g1, hg1⟩ : ∃ g, g = W2.heap.size := ⟨_, rfl⟩
 rw [← hg1] at c43 ⊢
 clear hg1
 go_upto_region 4 with fail
 have c43x : ∀ x : Ext W3, x.wd.cell? ⟨g1, 43, none⟩ = some (.slice (some ⟨bw, 0, none⟩) 1 1) := fun x => x.cell c43
 have hdr : ∃ x : Ext W3, W3.drew = x.wd := Ext.of (jE _ _).drew
 refine wp_region_held (S := fun w' => ∃ x : Ext W3, w' = x.wd) (by kernel_rfl) ?_
 show wpAnyH _ _ _ _ _ 12 _ _ W3.drew
 refine anyH_quiet 1 rfl (by kernel_rfl) (by kernel_rfl) (by kernel_rfl) (fun _ _ _ _ h => h) rfl rfl hdr ?_
 intro K hK
 conv => arg 2; whnf
 go_big_quiet_op
 go_big_quiet_on
 refine anyH_quiet 2 rfl (by kernel_rfl) (by kernel_rfl) (by kernel_rfl) (fun _ _ _ _ h => h) rfl rfl hdr ?_
 intro K hK
 conv => arg 2; whnf
 go_big_quiet_op
 go_big_quiet_on
 have hU : Below W3.heap.size W3 W3.drew := (jE _ _).drew
 generalize W3.drew = U at *
 clear hdr
 refine anyH_two 0 8 (by kernel_rfl) rfl rfl rfl rfl ?_ ?_
 ·refine op_call (by kernel_rfl) _ (fun v => by conv => lhs; arg 2; whnf) ((keys29_c U).mono ?_)
  rintro e U1 ⟨kb, rfl, hkb, hbU1⟩
  have hU1 : Below W3.heap.size W3 U1 := hU.trans (hbU1.mono hU.size)
  refine ⟨_, rfl, Ext.of hU1, ?_⟩
  try simp only [Act.put, sI, sS, sZ]
  refine anyH_two 3 8 (by kernel_rfl) rfl rfl rfl rfl ?_ ?_
  ·refine op_call (by kernel_rfl) _ (fun v => by conv => lhs; arg 2; whnf) ((HNX.out U1 hU1 kb hkb).mono ?_)
   rintro e U2 ⟨b, Av, cv, rfl, hbb, hrp, hbU2⟩
   have hU2 : Below W3.heap.size W3 U2 := hU1.trans (hbU2.mono hU1.size)
   refine ⟨_, rfl, Ext.of hU2, ?_⟩
   try simp only [Act.put, sI, sS, sZ]
   refine anyH_quiet 4 rfl (by kernel_rfl) (by kernel_rfl) (by kernel_rfl) (fun _ _ _ _ h => h) rfl rfl (Ext.of hU2) ?_
   intro K hK
   conv => arg 2; whnf
   go_big_quiet_op
   go_big_quiet_on
   refine anyH_quiet 5 rfl (by kernel_rfl) (by kernel_rfl) (by kernel_rfl) (fun _ _ _ _ h => h) rfl rfl (Ext.of hU2) ?_
   intro K hK
   conv => arg 2; whnf
   go_big_quiet_op
   go_big_quiet_on
   refine anyH_quiet 6 rfl (by kernel_rfl) (by kernel_rfl) (by kernel_rfl) (fun _ _ _ _ h => h) rfl rfl (Ext.of hU2) ?_
   intro K hK
   conv => arg 2; whnf
   go_big_quiet_op
   go_big_quiet_on
   refine anyH_quiet 7 rfl (by kernel_rfl) (by kernel_rfl) (by kernel_rfl) (fun _ _ _ _ h => h) rfl rfl (Ext.of hU2) ?_
   intro K hK
   conv => arg 2; whnf
   go_big_quiet_op
   go_big_quiet_on
   refine anyH_op 8 (by kernel_rfl) rfl rfl ?_
   refine op_value (op_allocP rfl zf2 zs4) _ (by conv => lhs; arg 2; whnf) ⟨Ext.of (hU2.alloc hU2.size _), ?_⟩
   try simp only [Act.put, sI, sS, sZ]
   obtain ⟨U3, eU3⟩ : ∃ U3, U3 = U2.alloc (.cells zWk 33) := ⟨_, rfl⟩
   have hbU3 : Below U2.heap.size U2 U3 := by rw [eU3]; exact (jE _ _).alloc (jD _) _
   have hU3 : Below W3.heap.size W3 U3 := hU2.trans (hbU3.mono hU2.size)
   have hzU3 : Blk U3 U2.heap.size 33 zWk := by rw [eU3]; exact Blk.new _ _ _
   rw [← eU3]
   clear eU3
   have hzb : Blk U3 U2.heap.size 33 zWk := hzU3
   have hbb2 : Blk U3 b 57 (vb nA) := hbb.below hbU3 hbb.lt
   obtain ⟨R, eR⟩ : ∃ R, R = U3.setRow U2.heap.size #[.slice (some ⟨b, 0, none⟩) 1 1, .slice Av 1 cv] := ⟨_, rfl⟩
   have hRO : Only (fun i => i = U2.heap.size) U3 R := by rw [eR]; exact setRow_only _ _ _
   have hR : Below W3.heap.size W3 R := by rw [eR]; exact hU3.trans (below_setRowP _ _ _ hU2.size)
   have hRb : Blk R U2.heap.size 33 #[.slice (some ⟨b, 0, none⟩) 1 1, .slice Av 1 cv] := by rw [eR]; exact setRow_heap _ _ zWk _ 33 (0, 0) hzb
   have hbR : Blk R b 57 (vb nA) := (hRO.block b hbb2.lt (fun e => blk_ne hzb hbb2 (by rw [vb_size, HNA12.out]; decide) e.symm)).trans hbb2
   have c0 : R.cell? ⟨U2.heap.size, 0, none⟩ = some (.slice (some ⟨b, 0, none⟩) 1 1) := (hRb.cell 0).trans rfl
   have c1 : R.cell? ⟨U2.heap.size, 1, none⟩ = some (.slice Av 1 cv) := (hRb.cell 1).trans rfl
   refine anyH_op 9 (by kernel_rfl) rfl rfl ?_
   refine wp_store_row 33 (.tmp 3) (.tmp 27) rfl U2.heap.size #[.slice (some ⟨b, 0, none⟩) 1 1, .slice Av 1 cv] rfl rfl 33 zWk hzb (wkSz _ _) rfl (by simp [Value.oneCell']) ?_
   rw [← eR]
   clear eR
   refine ⟨Ext.of hR, ?_⟩
   conv => arg 8; whnf
   try simp only [Act.put, sI, sS, sZ]
   refine anyH_quiet 10 rfl (by kernel_rfl) (by kernel_rfl) (by kernel_rfl) (fun _ _ _ _ h => h) rfl rfl (Ext.of hR) ?_
   intro K hK
   conv => arg 2; whnf
   go_big_quiet_op
   go_big_quiet_on
   refine anyH_quiet 11 rfl (by kernel_rfl) (by kernel_rfl) (by kernel_rfl) (fun _ _ _ _ h => h) rfl rfl (Ext.of hR) ?_
   intro K hK
   conv => arg 2; whnf
   go_big_quiet_op
   go_big_quiet_on
   refine wpAnyH_done (by kernel_rfl) ?_ _
   go_wp2_with (first
    | (refine wpList_loadA (by kernel_rfl) 57 (.tmp 44) rfl ⟨b, 0, none⟩ rfl (byt nA) _ (atA_blk hbR) Tryz.underlying57 rfl HNL.out ?_)
    | (refine wpList_valG (by kernel_rfl) (.agg (vb nA)) (by exact run_built _ 57 [(0, .int .u8 5)] _ HBN.out #[(0, .const (.int .u8 5))] rfl (by kernel_rfl)) ?_))
   go_ret
   exact ⟨rfl, HB3.out.trans (hR.mono HB3.out.size)⟩
  ·refine op_value (op_allocP rfl zf2 zs4) _ (by conv => lhs; arg 2; whnf) ⟨Ext.of (hU1.alloc hU1.size _), ?_⟩
   try simp only [Act.put, sI, sS, sZ]
   obtain ⟨U2, eU2⟩ : ∃ U2, U2 = U1.alloc (.cells zWk 33) := ⟨_, rfl⟩
   have hbU2 : Below U1.heap.size U1 U2 := by rw [eU2]; exact (jE _ _).alloc (jD _) _
   have hU2 : Below W3.heap.size W3 U2 := hU1.trans (hbU2.mono hU1.size)
   have hzU2 : Blk U2 U1.heap.size 33 zWk := by rw [eU2]; exact Blk.new _ _ _
   rw [← eU2]
   clear eU2
   refine anyH_op 3 (by kernel_rfl) rfl rfl ?_
   refine op_call (by kernel_rfl) _ (fun v => by conv => lhs; arg 2; whnf) ((HNX.out U2 hU2 kb (hkb.next hbU2)).mono ?_)
   rintro e U3 ⟨b, Av, cv, rfl, hbb, hrp, hbU3⟩
   have hU3 : Below W3.heap.size W3 U3 := hU2.trans (hbU3.mono hU2.size)
   refine ⟨_, rfl, Ext.of hU3, ?_⟩
   try simp only [Act.put, sI, sS, sZ]
   refine anyH_quiet 4 rfl (by kernel_rfl) (by kernel_rfl) (by kernel_rfl) (fun _ _ _ _ h => h) rfl rfl (Ext.of hU3) ?_
   intro K hK
   conv => arg 2; whnf
   go_big_quiet_op
   go_big_quiet_on
   refine anyH_quiet 5 rfl (by kernel_rfl) (by kernel_rfl) (by kernel_rfl) (fun _ _ _ _ h => h) rfl rfl (Ext.of hU3) ?_
   intro K hK
   conv => arg 2; whnf
   go_big_quiet_op
   go_big_quiet_on
   refine anyH_quiet 6 rfl (by kernel_rfl) (by kernel_rfl) (by kernel_rfl) (fun _ _ _ _ h => h) rfl rfl (Ext.of hU3) ?_
   intro K hK
   conv => arg 2; whnf
   go_big_quiet_op
   go_big_quiet_on
   refine anyH_quiet 7 rfl (by kernel_rfl) (by kernel_rfl) (by kernel_rfl) (fun _ _ _ _ h => h) rfl rfl (Ext.of hU3) ?_
   intro K hK
   conv => arg 2; whnf
   go_big_quiet_op
   go_big_quiet_on
   have hzb : Blk U3 U1.heap.size 33 zWk := hzU2.below hbU3 hzU2.lt
   have hbb2 : Blk U3 b 57 (vb nA) := hbb
   obtain ⟨R, eR⟩ : ∃ R, R = U3.setRow U1.heap.size #[.slice (some ⟨b, 0, none⟩) 1 1, .slice Av 1 cv] := ⟨_, rfl⟩
   have hRO : Only (fun i => i = U1.heap.size) U3 R := by rw [eR]; exact setRow_only _ _ _
   have hR : Below W3.heap.size W3 R := by rw [eR]; exact hU3.trans (below_setRowP _ _ _ hU1.size)
   have hRb : Blk R U1.heap.size 33 #[.slice (some ⟨b, 0, none⟩) 1 1, .slice Av 1 cv] := by rw [eR]; exact setRow_heap _ _ zWk _ 33 (0, 0) hzb
   have hbR : Blk R b 57 (vb nA) := (hRO.block b hbb2.lt (fun e => blk_ne hzb hbb2 (by rw [vb_size, HNA12.out]; decide) e.symm)).trans hbb2
   have c0 : R.cell? ⟨U1.heap.size, 0, none⟩ = some (.slice (some ⟨b, 0, none⟩) 1 1) := (hRb.cell 0).trans rfl
   have c1 : R.cell? ⟨U1.heap.size, 1, none⟩ = some (.slice Av 1 cv) := (hRb.cell 1).trans rfl
   refine anyH_op 9 (by kernel_rfl) rfl rfl ?_
   refine wp_store_row 33 (.tmp 3) (.tmp 27) rfl U1.heap.size #[.slice (some ⟨b, 0, none⟩) 1 1, .slice Av 1 cv] rfl rfl 33 zWk hzb (wkSz _ _) rfl (by simp [Value.oneCell']) ?_
   rw [← eR]
   clear eR
   refine ⟨Ext.of hR, ?_⟩
   conv => arg 8; whnf
   try simp only [Act.put, sI, sS, sZ]
   refine anyH_quiet 10 rfl (by kernel_rfl) (by kernel_rfl) (by kernel_rfl) (fun _ _ _ _ h => h) rfl rfl (Ext.of hR) ?_
   intro K hK
   conv => arg 2; whnf
   go_big_quiet_op
   go_big_quiet_on
   refine anyH_quiet 11 rfl (by kernel_rfl) (by kernel_rfl) (by kernel_rfl) (fun _ _ _ _ h => h) rfl rfl (Ext.of hR) ?_
   intro K hK
   conv => arg 2; whnf
   go_big_quiet_op
   go_big_quiet_on
   refine wpAnyH_done (by kernel_rfl) ?_ _
   go_wp2_with (first
    | (refine wpList_loadA (by kernel_rfl) 57 (.tmp 44) rfl ⟨b, 0, none⟩ rfl (byt nA) _ (atA_blk hbR) Tryz.underlying57 rfl HNL.out ?_)
    | (refine wpList_valG (by kernel_rfl) (.agg (vb nA)) (by exact run_built _ 57 [(0, .int .u8 5)] _ HBN.out #[(0, .const (.int .u8 5))] rfl (by kernel_rfl)) ?_))
   go_ret
   exact ⟨rfl, HB3.out.trans (hR.mono HB3.out.size)⟩
 ·refine op_value (op_allocP rfl zf2 zs4) _ (by conv => lhs; arg 2; whnf) ⟨Ext.of (hU.alloc hU.size _), ?_⟩
  try simp only [Act.put, sI, sS, sZ]
  obtain ⟨U1, eU1⟩ : ∃ U1, U1 = U.alloc (.cells zWk 33) := ⟨_, rfl⟩
  have hbU1 : Below U.heap.size U U1 := by rw [eU1]; exact (jE _ _).alloc (jD _) _
  have hU1 : Below W3.heap.size W3 U1 := hU.trans (hbU1.mono hU.size)
  have hzU1 : Blk U1 U.heap.size 33 zWk := by rw [eU1]; exact Blk.new _ _ _
  rw [← eU1]
  clear eU1
  refine anyH_op 0 (by kernel_rfl) rfl rfl ?_
  refine op_call (by kernel_rfl) _ (fun v => by conv => lhs; arg 2; whnf) ((keys29_c U1).mono ?_)
  rintro e U2 ⟨kb, rfl, hkb, hbU2⟩
  have hU2 : Below W3.heap.size W3 U2 := hU1.trans (hbU2.mono hU1.size)
  refine ⟨_, rfl, Ext.of hU2, ?_⟩
  try simp only [Act.put, sI, sS, sZ]
  refine anyH_op 3 (by kernel_rfl) rfl rfl ?_
  refine op_call (by kernel_rfl) _ (fun v => by conv => lhs; arg 2; whnf) ((HNX.out U2 hU2 kb hkb).mono ?_)
  rintro e U3 ⟨b, Av, cv, rfl, hbb, hrp, hbU3⟩
  have hU3 : Below W3.heap.size W3 U3 := hU2.trans (hbU3.mono hU2.size)
  refine ⟨_, rfl, Ext.of hU3, ?_⟩
  try simp only [Act.put, sI, sS, sZ]
  refine anyH_quiet 4 rfl (by kernel_rfl) (by kernel_rfl) (by kernel_rfl) (fun _ _ _ _ h => h) rfl rfl (Ext.of hU3) ?_
  intro K hK
  conv => arg 2; whnf
  go_big_quiet_op
  go_big_quiet_on
  refine anyH_quiet 5 rfl (by kernel_rfl) (by kernel_rfl) (by kernel_rfl) (fun _ _ _ _ h => h) rfl rfl (Ext.of hU3) ?_
  intro K hK
  conv => arg 2; whnf
  go_big_quiet_op
  go_big_quiet_on
  refine anyH_quiet 6 rfl (by kernel_rfl) (by kernel_rfl) (by kernel_rfl) (fun _ _ _ _ h => h) rfl rfl (Ext.of hU3) ?_
  intro K hK
  conv => arg 2; whnf
  go_big_quiet_op
  go_big_quiet_on
  refine anyH_quiet 7 rfl (by kernel_rfl) (by kernel_rfl) (by kernel_rfl) (fun _ _ _ _ h => h) rfl rfl (Ext.of hU3) ?_
  intro K hK
  conv => arg 2; whnf
  go_big_quiet_op
  go_big_quiet_on
  have hzb : Blk U3 U.heap.size 33 zWk := (hzU1.below hbU2 hzU1.lt).below hbU3 (jH hzU1.lt hbU2.size)
  have hbb2 : Blk U3 b 57 (vb nA) := hbb
  obtain ⟨R, eR⟩ : ∃ R, R = U3.setRow U.heap.size #[.slice (some ⟨b, 0, none⟩) 1 1, .slice Av 1 cv] := ⟨_, rfl⟩
  have hRO : Only (fun i => i = U.heap.size) U3 R := by rw [eR]; exact setRow_only _ _ _
  have hR : Below W3.heap.size W3 R := by rw [eR]; exact hU3.trans (below_setRowP _ _ _ hU.size)
  have hRb : Blk R U.heap.size 33 #[.slice (some ⟨b, 0, none⟩) 1 1, .slice Av 1 cv] := by rw [eR]; exact setRow_heap _ _ zWk _ 33 (0, 0) hzb
  have hbR : Blk R b 57 (vb nA) := (hRO.block b hbb2.lt (fun e => blk_ne hzb hbb2 (by rw [vb_size, HNA12.out]; decide) e.symm)).trans hbb2
  have c0 : R.cell? ⟨U.heap.size, 0, none⟩ = some (.slice (some ⟨b, 0, none⟩) 1 1) := (hRb.cell 0).trans rfl
  have c1 : R.cell? ⟨U.heap.size, 1, none⟩ = some (.slice Av 1 cv) := (hRb.cell 1).trans rfl
  refine anyH_op 9 (by kernel_rfl) rfl rfl ?_
  refine wp_store_row 33 (.tmp 3) (.tmp 27) rfl U.heap.size #[.slice (some ⟨b, 0, none⟩) 1 1, .slice Av 1 cv] rfl rfl 33 zWk hzb (wkSz _ _) rfl (by simp [Value.oneCell']) ?_
  rw [← eR]
  clear eR
  refine ⟨Ext.of hR, ?_⟩
  conv => arg 8; whnf
  try simp only [Act.put, sI, sS, sZ]
  refine anyH_quiet 10 rfl (by kernel_rfl) (by kernel_rfl) (by kernel_rfl) (fun _ _ _ _ h => h) rfl rfl (Ext.of hR) ?_
  intro K hK
  conv => arg 2; whnf
  go_big_quiet_op
  go_big_quiet_on
  refine anyH_quiet 11 rfl (by kernel_rfl) (by kernel_rfl) (by kernel_rfl) (fun _ _ _ _ h => h) rfl rfl (Ext.of hR) ?_
  intro K hK
  conv => arg 2; whnf
  go_big_quiet_op
  go_big_quiet_on
  refine wpAnyH_done (by kernel_rfl) ?_ _
  go_wp2_with (first
   | (refine wpList_loadA (by kernel_rfl) 57 (.tmp 44) rfl ⟨b, 0, none⟩ rfl (byt nA) _ (atA_blk hbR) Tryz.underlying57 rfl HNL.out ?_)
   | (refine wpList_valG (by kernel_rfl) (.agg (vb nA)) (by exact run_built _ 57 [(0, .int .u8 5)] _ HBN.out #[(0, .const (.int .u8 5))] rfl (by kernel_rfl)) ?_))
  go_ret
  exact ⟨rfl, HB3.out.trans (hR.mono HB3.out.size)⟩
def nnE : List Nat := 88 :: List.replicate 11 0
theorem nnE_len : nnE.length = 12 := by simp [nnE]
theorem nnE_lt : ∀ c ∈ nnE, c < 256 := by
 intro c hc
 rcases List.mem_cons.1 hc with rfl | hc
 ·decide
 ·rw [List.eq_of_mem_replicate hc]; decide
theorem built_nnE : Tryz.prog.built 57 [(0, .int .u8 88)] = some (vb nnE) := by kernel_rfl
theorem run_allocC {o : Oper} {ρ : Operand → Value} (w : World) (ho : o.op = .alloc 52) : (execOp ρ o).run Tryz.prog w = .ok (.value (.pointer (some ⟨w.heap.size, 0, none⟩))) (w.alloc (.cells zCh 52)) := by
 unfold execOp
 simp [ho, Instr.alloc, zero_ch, newVar, newRow, Value.cells]
 rfl
theorem anyH_runN {P : Program} {ops : Array Oper} {md : Region.Mode} {S : World → Prop} {Q : Exit → Act → World → Prop} (i : Nat) {oi : Oper} {fuel : Nat} {listed : Array Bool} {a : Act} {w : World} (hi : ops[i]? = some oi) (v : Value) (hr : ∀ w, (execOp a.eval oi).run P w = .ok (.value v) w)
  (hs : Region.noSelect ops = true) (hf : Region.free md ops listed i = true) (hrd : (Region.ready md ops listed).contains i = true)
  (hQ : ∀ c a w, Q (.panic c) (a.put oi.dst v) w → Q (.panic c) a w) (hw : Region.wanted oi (yielded ops a.tmps) = true) (hS : S w)
  (a' : Act) (ha : a.put oi.dst v = a') (h : wpAnyH P md ops Q S fuel (listed.setIfInBounds i true) a' w) : wpAnyH P md ops Q S (fuel + 1) listed a w :=
 wpAnyH_take hi hs hf hrd hQ (.inl ⟨hw, fun w' _ => hr w'⟩) hS (by rw [ha]; exact h)
theorem grsS_all {gs : List (List Pc)} {es : List Nat} {n : Nat} (h : ∀ i, i < n → OkS gs es i) (hp : ∀ i, ∀ p ∈ grS gs i, PcOk p ∧ p.s.size ≤ 9223372036854775807) : ∀ g ∈ grsS gs es n, g.l.length ≤ 32 ∧ (∀ p ∈ g.l, PcOk p ∧ p.s.size ≤ 200) ∧ (g.nn.length = 12 ∧ ∀ c ∈ g.nn, c < 256) := fun g hg => by
 unfold grsS at hg
 obtain ⟨i, hi, rfl⟩ := List.mem_map.1 hg
 have := List.mem_range.1 (List.mem_filter.1 hi).1
 exact ⟨(h i this).le, fun p hpp => ⟨(hp i p hpp).1, (chk_sizes (h i this).ck p hpp).2⟩, nnS_len i, nnS_lt i⟩
def ChK (gone : List (List Nat)) (m : List Pc) (nn : List Nat) (ep : Nat) (bd : List Nat) (base : Nat) (c : Array Value) (W : World) : Prop :=
 (m.length = 0 ∧ ∃ g' cg', c = chV 5 (.slice g' gone.length cg') (.slice none 0 0) ∧ OwnN W base (.slice g' gone.length cg') gone) ∨
 (0 < m.length ∧ chkL m ≠ 0 ∧ c = zCh) ∨
 (0 < m.length ∧ chkL m = 0 ∧ ∃ g' cg' b Ab cb, c = chV 5 (.slice g' gone.length cg') (.slice (some ⟨b, 0, none⟩) 1 1) ∧ OwnN W base (.slice g' gone.length cg') gone ∧ Blk W b 61 (bxV tenT ep nn Ab bd.length cb) ∧ OwnB W base (.slice Ab bd.length cb) bd ∧ base ≤ b)
theorem ChK.next {gone : List (List Nat)} {m : List Pc} {nn : List Nat} {ep : Nat} {bd : List Nat} {base : Nat} {c : Array Value} {W W' : World} (h : ChK gone m nn ep bd base c W) (hb : Below W.heap.size W W') : ChK gone m nn ep bd base c W' := by
 rcases h with ⟨h1, g', cg', h2, h3⟩ | h | ⟨h1, h2, g', cg', b, Ab, cb, h3, h4, h5, h6, h7⟩
 ·exact .inl ⟨h1, g', cg', h2, own_keep (S := fun _ => False) h3 (Only.of_below hb) (fun _ _ h => h)⟩
 ·exact .inr (.inl h)
 ·exact .inr (.inr ⟨h1, h2, g', cg', b, Ab, cb, h3, own_keep (S := fun _ => False) h4 (Only.of_below hb) (fun _ _ h => h), h5.below hb h5.lt, h6.next hb, h7⟩)
theorem ChK.base_le {gone : List (List Nat)} {m : List Pc} {nn : List Nat} {ep : Nat} {bd : List Nat} {base base' : Nat} {c : Array Value} {W : World} (h : ChK gone m nn ep bd base c W) (hb : base' ≤ base) : ChK gone m nn ep bd base' c W := by
 rcases h with ⟨h1, g', cg', h2, h3⟩ | h | ⟨h1, h2, g', cg', b, Ab, cb, h3, h4, h5, h6, h7⟩
 ·exact .inl ⟨h1, g', cg', h2, own_base_le h3 hb⟩
 ·exact .inr (.inl h)
 ·exact .inr (.inr ⟨h1, h2, g', cg', b, Ab, cb, h3, own_base_le h4 hb, h5, own_base_le h6 hb, Nat.le_trans hb h7⟩)
theorem ChK.sz {gone : List (List Nat)} {m : List Pc} {nn : List Nat} {ep : Nat} {bd : List Nat} {base : Nat} {c : Array Value} {W : World} (h : ChK gone m nn ep bd base c W) : (Tryz.prog.info? 52).map (·.size) = some c.size ∧ zCh.size = c.size ∧ c.all (·.oneCell') = true := by
 rcases h with ⟨h1, g', cg', rfl, h3⟩ | ⟨_, _, rfl⟩ | ⟨h1, h2, g', cg', b, Ab, cb, rfl, h4, h5, h6⟩
 ·exact ⟨chSz .., rfl, ch_all ..⟩
 ·exact ⟨chSz .., rfl, ch_all ..⟩
 ·exact ⟨chSz .., rfl, ch_all ..⟩
theorem chK_of {gone : List (List Nat)} {m : List Pc} {k nn : List Nat} {ep : Nat} {w w' : World} {e : Ending} (h : ChD gone m k nn tenT ep w e w') : ∃ c, e = .returned (.tuple #[.agg c, .int .i64 ((chkL m : Nat) : Int)]) ∧ ChK gone m nn ep (boxL k nn tenT ep m) w.heap.size c w' ∧ Below w.heap.size w w' := by
 have hse : sealE tenT m = chkL m := by unfold sealE; rw [tenT_name]; rfl
 obtain ⟨g', cg', ho, hb, h⟩ := h
 rcases h with ⟨h1, e1⟩ | ⟨h1, h2, e1⟩ | ⟨h1, h2, b, e1, Ab, cb, h3, h4, h5⟩
 ·have hm : m = [] := List.eq_nil_of_length_eq_zero h1
  have h0 : chkL m = 0 := by rw [hm]; decide +kernel
  exact ⟨_, by rw [e1, h0]; rfl, .inl ⟨h1, g', cg', rfl, ho⟩, hb⟩
 ·rw [hse] at h2 e1
  exact ⟨_, e1, .inr (.inl ⟨h1, h2, rfl⟩), hb⟩
 ·rw [hse] at h2
  exact ⟨_, by rw [e1, h2]; rfl, .inr (.inr ⟨h1, h2, g', cg', b, Ab, cb, rfl, ho, h3, h5, h4⟩), hb⟩
theorem ChK.off {gone : List (List Nat)} {m : List Pc} {nn : List Nat} {ep : Nat} {bd : List Nat} {base : Nat} {c : Array Value} {W W' : World} {g : Nat} (h : ChK gone m nn ep bd base c W) (ho : Only (fun i => i = g) W W') (hg : g < base) : ChK gone m nn ep bd base c W' := by
 have key : ∀ {v : Value} {ns : List (List Nat)}, OwnN W base v ns → OwnN W' base v ns := fun h3 => own_keep (S := fun i => i = g) h3 ho (fun g' e hs => by have := own_base h3 g' e; omega)
 rcases h with ⟨h1, g', cg', h2, h3⟩ | h | ⟨h1, h2, g', cg', b, Ab, cb, h3, h4, h5, h6, h7⟩
 ·exact .inl ⟨h1, g', cg', h2, key h3⟩
 ·exact .inr (.inl h)
 ·exact .inr (.inr ⟨h1, h2, g', cg', b, Ab, cb, h3, key h4, (ho.block b h5.lt (by omega)).trans h5, own_keep (S := fun i => i = g) h6 ho (fun g' e hs => by have := own_base h6 g' e; omega), h7⟩)
def CutN (gone : List (List Nat)) (m : List Pc) (nn : List Nat) (ep : Nat) (bd : List Nat) (en : Int) (W6 : World) (u v : Value) (W : World) : Prop :=
 ∃ g19 c, u = .pointer (some ⟨g19, 0, none⟩) ∧ v = .int .i64 en ∧ Blk W g19 52 c ∧ ChK gone m nn ep bd W6.heap.size c W ∧ Below W6.heap.size W6 W
theorem next29l_c (A : Option Addr) (cA : Nat) (gs : List (List Pc)) (B : Option Addr) (cB : Nat) (es : List Nat) (eb : Nat) (hz : Int) (w : World) (hls : LsAt w A gs) (hgl : gs.length ≤ 1048576) (hgp : ∀ g ∈ gs, g.length ≤ 9223372036854775807 ∧ ∀ p ∈ g, PcOk p ∧ p.s.size ≤ 9223372036854775807) (hes : Rd w w.heap.size B (byt es)) (heb : ∀ c ∈ es, c < 256) (hel : es.length ≤ 9223372036854775807) (hev : eb < 256) (hq : QuartersAt w) :
  Calls Tryz.prog 3 #[.slice A gs.length cA, .slice B es.length cB, .int .u8 (eb : Nat), .int .i64 hz] w fun e w' => e = .returned (.bool true) ∧ Below w.heap.size w w' := by
 have zf := zero_ch
 have zs1 : zCh.size = 45 := by rfl
 have zs2 : ¬ zCh = #[] := by intro h; have := congrArg Array.size h; rw [zs1] at this; cases this
 have zf2 := zero_wk
 have zs3 : zWk.size = 2 := by rfl
 have zs4 : ¬ zWk = #[] := by intro h; have := congrArg Array.size h; rw [zs3] at this; cases this
 have hsv := shelved_c A cA gs B cB es w hls hgl hgp hes heb hel hq
 have HQ := Li hq
 have HGP := Li hgp
 have HAWF := Li (fun W (hb : Below w.heap.size w W) => awake29_c W (hq.next hb))
 clear hq hls hgl hgp hes heb hel
 by_cases hO : ∀ i, i < gs.length → OkS gs es i
 case neg =>
  have hs2 : Calls Tryz.prog 5 #[.slice A gs.length cA, .slice B es.length cB] w fun e w' => e = .returned (.tuple #[.slice none 0 0, .slice none 0 0, .bool false]) ∧ Below w.heap.size w w' := by
   refine hsv.mono ?_
   rintro e w' ⟨h, hb⟩
   rcases h with ⟨_, e1⟩ | ⟨h, _⟩
   ·exact ⟨e1, hb⟩
   ·exact absurd h hO
  have HSV := Li hs2
  clear hsv hs2 hO
  go_enter Tryz.func3, Tryz.ntmps3
  go_wp2_with (first
   | (go_at_call 5; (with_reducible refine HSV.out.mono ?_); rintro e W1 ⟨rfl, hb⟩; have HB1 := Li hb; have HAW := Li (HAWF.out W1 hb); clear hb)
   | (go_at_call 6; (with_reducible refine HAW.out.mono ?_); rintro e W9 ⟨rfl, hb⟩; have HB9 := Li (HB1.out.trans (hb.mono HB1.out.size)); clear hb))
  go_ret
  exact ⟨rfl, HB9.out⟩
 case pos =>
 have hs2 : Calls Tryz.prog 5 #[.slice A gs.length cA, .slice B es.length cB] w fun e w' => ∃ Ax cx Ag cg, e = .returned (.tuple #[.slice Ax gs.length cx, .slice Ag (grsS gs es gs.length).length cg, .bool true]) ∧ RdX w' Ax (bxsS gs es gs.length) ∧ RdO w' Ag (grsS gs es gs.length) ∧ Below w.heap.size w w' := by
  refine hsv.mono ?_
  rintro e w' ⟨h, hb⟩
  rcases h with ⟨⟨i, hi, h⟩, _⟩ | ⟨_, Ax, cx, Ag, cg, e1, h1, h2⟩
  ·exact absurd (hO i hi) h
  ·exact ⟨Ax, cx, Ag, cg, e1, h1, h2, hb⟩
 have HSV := Li hs2
 clear hsv hs2
 by_cases h8 : gs.length ≤ 8
 case neg =>
  have q1 : (8 : Int) < (gs.length : Int) := by omega
  clear h8 hO
  obtain ⟨ng, hng⟩ : ∃ ng, ng = (grsS gs es gs.length).length := ⟨_, rfl⟩
  rw [← hng] at HSV
  clear hng
  go_enter Tryz.func3, Tryz.ntmps3
  go_wp2_with (first
   | (go_at_call 5; (with_reducible refine HSV.out.mono ?_); rintro e W1 ⟨Ax, cx, Ag, cg, rfl, _, _, hb⟩; have HB1 := Li hb; have HAW := Li (HAWF.out W1 hb); clear hb)
   | (go_at_call 6; (with_reducible refine HAW.out.mono ?_); rintro e W9 ⟨rfl, hb⟩; have HB9 := Li (HB1.out.trans (hb.mono HB1.out.size)); clear hb))
  go_ret
  exact ⟨rfl, HB9.out⟩
 case pos =>
 have q1 : ¬ (8 : Int) < (gs.length : Int) := by omega
 have hgrp : ∀ i, ∀ p ∈ grS gs i, PcOk p ∧ p.s.size ≤ 9223372036854775807 := fun i p hp => by
  have hp2 := merge_sub _ p hp
  have hgm : gs.getD i [] ∈ gs := by
   rcases Nat.lt_or_ge i gs.length with h | h
   ·rw [jA, jB h]; exact List.getElem_mem h
   ·rw [jA, List.getElem?_eq_none h] at hp2; cases hp2
  exact (HGP.out _ hgm).2 p hp2
 have hmap := of_shelvedG hgrp gs.length hO
 obtain ⟨_, hbok⟩ := of_shelved hgrp gs.length hO
 have hall := grsS_all hO hgrp
 have hngl := grsS_len gs es gs.length
 have hbxl := bxsS_len gs es gs.length
 obtain ⟨bs, hbs⟩ : ∃ bs, bs = bxsS gs es gs.length := ⟨_, rfl⟩
 obtain ⟨os, hos⟩ : ∃ os, os = grsS gs es gs.length := ⟨_, rfl⟩
 rw [← hbs, ← hos] at hmap
 rw [← hbs] at hbok hbxl
 rw [← hos] at hall hngl
 rw [← hbs, ← hos] at HSV
 obtain ⟨e3, he3⟩ : ∃ e3, e3 = eb % 3 := ⟨_, rfl⟩
 obtain ⟨ep, hep⟩ : ∃ ep, ep = e3 + 1 := ⟨_, rfl⟩
 have f1 : (eb : Int) % 3 = (e3 : Int) := by omega
 have f2 : Int.tmod (eb : Int) 3 = (e3 : Int) := by rw [Int.tmod_eq_emod_of_nonneg (by omega)]; exact f1
 have f3 : (e3 : Int) + 1 = (ep : Int) := by omega
 have f4 : (0 : Int) ≤ (e3 : Int) := by omega
 have f5 : (e3 : Int) ≤ 2 := by omega
 have f6 : (0 : Int) ≤ (ep : Int) := by omega
 have f7 : (ep : Int) ≤ 3 := by omega
 have f8 : (0 : Int) ≤ (eb : Int) := by omega
 have f9 : (eb : Int) ≤ 255 := by omega
 have HEP := Li (show ep < 256 by omega)
 clear he3 hep
 have HNX := Li (fun W Ax cx kb (hx : RdX W Ax bs) (hk : KeysAt W kb 3 (kmV kf3)) (hqW : QuartersAt W) => show Calls Tryz.prog 7 #[.map (some kb), .slice Ax gs.length cx, .string tenT, .int .u32 (ep : Nat), .int .i64 hz] W (NxB os ep hz W) by
  have h := next_c Ax cx bs tenT kb 3 kf3 ep hz W hx (by rw [hbxl]; omega) (fun b hb => (hbok b hb).1.bs) hk (fun b hb => hbok b (ofT_mem hb)) hqW
  rwa [hbxl, hmap] at h)
 have HRN := Li (fun W Ag cg (ho : RdO W Ag os) => rnext_c Ag cg os ep hz W ho (by omega) (fun g hg => ⟨(hall g hg).1, fun p hp => ⟨((hall g hg).2.1 p hp).1, by have := ((hall g hg).2.1 p hp).2; omega⟩⟩))
 have HXD := Li (show ∀ gone m is, NxD os ep hz gone m is → (m.length ≤ 32 ∧ ∀ p ∈ m, PcOk p ∧ p.s.size ≤ 200) ∧ (gone.length ≤ 2 ∧ ∀ x ∈ gone, x.length = 12 ∧ ∀ c ∈ x, c < 256) from fun gone m is hd => ⟨⟨hd.len (fun g hg => (hall g hg).1), hd.pcs (fun p => PcOk p ∧ p.s.size ≤ 200) (fun g hg => (hall g hg).2.1)⟩, hd.nns (fun g hg => (hall g hg).2.2)⟩)
 clear hgrp hmap hbok hall hngl hbxl hbs hos h8 hO
 go_enter Tryz.func3, Tryz.ntmps3
 go_upto_region 5 with (go_at_call 5; (with_reducible refine HSV.out.mono ?_); rintro e W1 ⟨Ax, cx, Ag, cg, rfl, hx, hg, hb⟩; have HB1 := Li hb; have HX1 := Li hx; have HO1 := Li hg; clear hb hx hg)
 have HKS := Li (keys29_c W1)
 clear HSV
 go_upto_region 6 with (first
  | (go_at_call 8; (with_reducible refine HKS.out.mono ?_); rintro e W2 ⟨kb, rfl, hkb, hb⟩; have HB2 := Li (HB1.out.trans (hb.mono HB1.out.size)); have HW2 := Li hb; have HN2 := Li (HNX.out W2 Ax cx kb (HX1.out.next hb) hkb (HQ.out.next HB2.out)); clear hkb hb)
  | (go_at_call 7; (refine HN2.out.mono ?_); rintro e W3 ⟨gone, m, is, Ag1, cg1, Am1, cm1, rfl, hd, _, hn1, hm1, hc1, hb⟩; have HB3 := Li (HB2.out.trans (hb.mono HB2.out.size)); have HW3 := Li (HW2.out.trans (hb.mono HW2.out.size)); have HD := Li hd; have HG1 := Li hn1; have HM1 := Li hm1; have HC1 := Li hc1; clear hd hn1 hm1 hc1 hb)
  | (refine wpList_store_rowTo rfl 33 (.tmp 13) (.tmp 46) rfl rfl W3.heap.size #[.slice Ag1 gone.length cg1, .slice Am1 m.length cm1] rfl rfl 33 zWk (by exact heap_alloc_new _ _) (wkSz ..) rfl (by simp [Value.oneCell']) ?_))
 obtain ⟨Y, hY⟩ : ∃ Y, Y = (W3.alloc (Obj.cells zWk 33)).setRow W3.heap.size #[.slice Ag1 gone.length cg1, .slice Am1 m.length cm1] := ⟨_, rfl⟩
 have hnr := new_rowP W3 33 zWk #[.slice Ag1 gone.length cg1, .slice Am1 m.length cm1]
 rw [← hY] at hnr ⊢
 have HBY := Li (HB3.out.trans (hnr.2.mono HB3.out.size))
 have HWY := Li (HW3.out.trans (hnr.2.mono HW3.out.size))
 have HXW := Li hnr.1
 have HG1Y := Li (show RdN Y Y.heap.size Ag1 gone from (Rd.below (show Rd W3 W3.heap.size Ag1 (nnC gone) from HG1.out) hnr.2).more hnr.2.size)
 have HM1Y := Li (show RdP Y Y.heap.size Am1 m from (Rd.below (show Rd W3 W3.heap.size Am1 (pcs m) from HM1.out) hnr.2).more hnr.2.size)
 have HRNY := Li (HRN.out Y Ag cg (HO1.out.next HWY.out))
 obtain ⟨g13, hg13⟩ : ∃ g, g = W3.heap.size := ⟨_, rfl⟩
 rw [← hg13] at HXW ⊢
 clear hnr hY hg13 HN2 HNX HRN HG1 HM1 HKS HW2 HW3 HB2 HB3
 go_upto_region 7 with (go_at_call 9; (refine HRNY.out.mono ?_); rintro e W4 ⟨gone', m', is', Ag2, cg2, Am2, cm2, rfl, hd, hn2, hm2, hc2, hb⟩; have HB4 := Li (HBY.out.trans (hb.mono HBY.out.size)); have HY4 := Li hb; have HD2 := Li hd; have HG2 := Li hn2; have HM2 := Li hm2; clear hd hn2 hm2 hc2 hb)
 obtain ⟨rfl, rfl, rfl⟩ := HD.out.uniq HD2.out
 obtain ⟨⟨hml, hmp⟩, hgn, hgx⟩ := HXD.out _ _ _ HD.out
 have HXW4 := Li (HXW.out.below HY4.out HXW.out.lt)
 have HG1 := Li (show RdN W4 W4.heap.size Ag1 gone from (Rd.below (show Rd Y Y.heap.size Ag1 (nnC gone) from HG1Y.out) HY4.out).more HY4.out.size)
 have HM1 := Li (show RdP W4 W4.heap.size Am1 m from (Rd.below (show Rd Y Y.heap.size Am1 (pcs m) from HM1Y.out) HY4.out).more HY4.out.size)
 have HML := Li hml
 have HMP := Li hmp
 have HGN := Li hgn
 have HGX := Li hgx
 have c0 : W4.cell? ⟨g13, 0, none⟩ = some (.slice Ag1 gone.length cg1) := (HXW4.out.cell 0).trans rfl
 have c1 : W4.cell? ⟨g13, 1, none⟩ = some (.slice Am1 m.length cm1) := (HXW4.out.cell 1).trans rfl
 have HL13 := Li (show g13 < W4.heap.size from HXW4.out.lt)
 have HSN := Li (samen_c W4.heap.size W4.heap.size Ag1 Ag2 cg1 cg2 gone W4 HG1.out HG2.out hgx (by omega))
 clear hml hmp hgn hgx HD HD2 HXD HRNY HXW HG1Y HM1Y HX1 HO1 HWY HBY HY4
 have HARM7 := Li True.intro
 cases is with
 | false =>
  go_wp2_with (first
   | (go_at_call 10; (with_reducible refine HSN.out.mono ?_); rintro e W5 ⟨rfl, nq, hd5⟩; have hb5 : Below W4.heap.size W4 W5 := (by rw [hd5]; exact belowDrewN nq (jE _ _)); have d1 : W5.cell? ⟨g13, 1, none⟩ = some (.slice Am1 m.length cm1) := (hb5.cell (p := ⟨g13, 1, none⟩) HL13.out).trans c1; have HB5 := Li (HB4.out.trans (hb5.mono HB4.out.size)); have HSP := Li (rsameP_c W5.heap.size W5.heap.size Am1 Am2 cm1 cm2 m W5 ((Rd.below (show Rd W4 W4.heap.size Am1 (pcs m) from HM1.out) hb5).more hb5.size) ((Rd.below (show Rd W4 W4.heap.size Am2 (pcs m) from HM2.out) hb5).more hb5.size) (by have := HML.out; omega)); clear hd5 hb5)
   | (go_at_call 11; (with_reducible refine HSP.out.mono ?_); rintro e W6 ⟨rfl, nr, hd6⟩; have HB6 := Li (show Below w.heap.size w W6 by rw [hd6]; exact belowDrewN nr HB5.out); have HAW := Li (HAWF.out W6 HB6.out); clear hd6)
   | (go_at_call 6; (with_reducible refine HAW.out.mono ?_); rintro e W9 ⟨rfl, hb⟩; have HB9 := Li (HB6.out.trans (hb.mono HB6.out.size)); clear hb))
  go_ret
  exact ⟨rfl, HB9.out⟩
 | true =>
  go_upto_region 11 with (first
   | (go_at_call 10; (with_reducible refine HSN.out.mono ?_); rintro e W5 ⟨rfl, nq, hd5⟩; have hb5 : Below W4.heap.size W4 W5 := (by rw [hd5]; exact belowDrewN nq (jE _ _)); have d1 : W5.cell? ⟨g13, 1, none⟩ = some (.slice Am1 m.length cm1) := (hb5.cell (p := ⟨g13, 1, none⟩) HL13.out).trans c1; have HB5 := Li (HB4.out.trans (hb5.mono HB4.out.size)); have HSP := Li (rsameP_c W5.heap.size W5.heap.size Am1 Am2 cm1 cm2 m W5 ((Rd.below (show Rd W4 W4.heap.size Am1 (pcs m) from HM1.out) hb5).more hb5.size) ((Rd.below (show Rd W4 W4.heap.size Am2 (pcs m) from HM2.out) hb5).more hb5.size) (by have := HML.out; omega)); have H45 := Li hb5; clear hd5 hb5)
   | (go_at_call 11; (with_reducible refine HSP.out.mono ?_); rintro e W6 ⟨rfl, nr, hd6⟩; have HB6 := Li (show Below w.heap.size w W6 by rw [hd6]; exact belowDrewN nr HB5.out); have H46 := Li (show Below W4.heap.size W4 W6 by rw [hd6]; exact belowDrewN nr H45.out); clear hd6))
  obtain ⟨en, hen⟩ : ∃ en : Int, en = ((chkL m : Nat) : Int) := ⟨_, rfl⟩
  obtain ⟨nE, hnE⟩ : ∃ nE, nE = nnE := ⟨_, rfl⟩
  have HBN := Li (show Tryz.prog.built 57 [(0, .int .u8 88)] = some (vb nE) by rw [hnE]; exact built_nnE)
  obtain ⟨kE, hkE⟩ : ∃ kE, kE = vb (keyE ep) := ⟨_, rfl⟩
  obtain ⟨bd, hbd⟩ : ∃ bd, bd = boxL (keyE ep) nE tenT ep m := ⟨_, rfl⟩
  have HKYF := Li (fun U => show Calls Tryz.prog 13 #[.int .u32 (ep : Int)] U fun en w' => en = .returned (.agg kE) ∧ Below U.heap.size U w' by
   rw [hkE]
   exact key29_c ep U HEP.out)
  have hx6 : Blk W6 g13 33 #[.slice Ag1 gone.length cg1, .slice Am1 m.length cm1] := HXW4.out.below H46.out HXW4.out.lt
  have HX6 := Li hx6
  have HWSZ := Li (show (Tryz.prog.info? 33).map (·.size) = some (#[.slice Ag1 gone.length cg1, .slice Am1 m.length cm1] : Array Value).toList.length from wkSz _ _)
  have HG6 := Li (show RdN W6 W6.heap.size Ag1 gone from (Rd.below (show Rd W4 W4.heap.size Ag1 (nnC gone) from HG1.out) H46.out).more H46.out.size)
  have HM6 := Li (show RdP W6 W6.heap.size Am1 m from (Rd.below (show Rd W4 W4.heap.size Am1 (pcs m) from HM1.out) H46.out).more H46.out.size)
  have HG26 := Li (show RdN W6 W6.heap.size Ag2 gone from (Rd.below (show Rd W4 W4.heap.size Ag2 (nnC gone) from HG2.out) H46.out).more H46.out.size)
  have HM26 := Li (show RdP W6 W6.heap.size Am2 m from (Rd.below (show Rd W4 W4.heap.size Am2 (pcs m) from HM2.out) H46.out).more H46.out.size)
  have hmok : ∀ p ∈ m, PcOk p ∧ p.s.size ≤ 1000000 := fun p hp => ⟨(HMP.out p hp).1, by have := (HMP.out p hp).2; omega⟩
  have HMK := Li hmok
  have HCHC := Li (fun U (hb : Below W6.heap.size W6 U) => show Calls Tryz.prog 12 #[.agg #[.slice Ag1 gone.length cg1, .slice Am1 m.length cm1], .agg kE, .agg (vb nE), .string tenT, .int .u32 (ep : Int)] U fun e w' => ∃ c, e = .returned (.tuple #[.agg c, .int .i64 en]) ∧ ChK gone m nE ep bd U.heap.size c w' ∧ Below U.heap.size U w' by
   rw [hkE, hen, hbd]
   refine (change29_c gone Ag1 cg1 m Am1 cm1 (keyE ep) nE tenT ep U ((Rd.below (show Rd W6 W6.heap.size Ag1 (nnC gone) from HG6.out) hb).more hb.size) (fun x hx => (HGX.out x hx).1) (by have := HGN.out; omega) ((Rd.below (show Rd W6 W6.heap.size Am1 (pcs m) from HM6.out) hb).more hb.size) HC1.out (by have := HML.out; omega) HMK.out (keyE_len ep) (keyE_lt HEP.out) (by rw [hnE]; exact nnE_len) (by rw [hnE]; exact nnE_lt) (by decide) (by have := HEP.out; omega) (HQ.out.next (HB6.out.trans (hb.mono HB6.out.size)))).mono ?_
   rintro e w' h
   exact chK_of h)
  have HSEF := Li (fun (h0 : chkL m = 0) U Am cm (h : RdP U U.heap.size Am m) => show Calls Tryz.prog 16 #[.agg kE, .agg (vb nE), .string tenT, .int .u32 (ep : Int), .slice Am m.length cm] U fun e w' => ∃ u, e = .returned u ∧ RBox tenT ep nE bd U.heap.size u w' ∧ Below U.heap.size U w' by
   rw [hbd, hkE, hnE]
   exact rseal16_c (keyE ep) nnE tenT ep Am cm m U (keyE_len ep) (keyE_lt HEP.out) nnE_len nnE_lt (by decide) (by have := HEP.out; omega) h (by have := HML.out; omega) HMK.out h0)
  have HBDL := Li (fun (h0 : chkL m = 0) => show (∀ c ∈ bd, c < 256) ∧ bd.length ≤ 1000000 from ⟨by rw [hbd]; exact boxL_lt5 _ _ _ _ _ h0, by
   have := boxL_le5 (keyE ep) nE tenT ep m h0 (fun p hp => (HMK.out p hp).1)
   rw [hbd]
   omega⟩)
  have HNBL := Li (show nE.length = 12 ∧ ∀ c ∈ nE, c < 256 by rw [hnE]; exact ⟨nnE_len, nnE_lt⟩)
  have HEN := Li hen
  clear hmok hnE hkE hbd hen hx6 HSN HSP HG1 HM1 HG2 HM2 c0 c1 d1 H45 HB5 HXW4 HL13
  go_cut [19, 20] from 81 to 89 (fun u19 u20 wx => CutN gone m nE ep bd en W6 u19 u20 wx)
  case first =>
   have hdr : ∃ x : Ext W6, W6.drew = x.wd := Ext.of (jE _ _).drew
   have HAT := Li (fun (W : World) (h : ∃ x : Ext W6, W = x.wd) => show AtA W ⟨g13, 0, none⟩ [.slice Ag1 gone.length cg1, .slice Am1 m.length cm1] by
    obtain ⟨x, rfl⟩ := h
    exact atA_blk (cs := [.slice Ag1 gone.length cg1, .slice Am1 m.length cm1]) (HX6.out.below x.bel HX6.out.lt))
   refine wp_region_held (S := fun w' => ∃ x : Ext W6, w' = x.wd) (by kernel_rfl) ?_
   show wpAnyH _ _ _ _ _ 12 _ _ W6.drew
   refine anyH_quiet 0 rfl (by kernel_rfl) (by kernel_rfl) (by kernel_rfl) (fun _ _ _ _ h => h) rfl rfl hdr ?_
   intro K hK
   conv => arg 2; whnf
   refine quiet_loadA 33 (.tmp 13) rfl ⟨g13, 0, none⟩ rfl [.slice Ag1 gone.length cg1, .slice Am1 m.length cm1] _ HAT.out Tryz.underlying33 rfl HWSZ.out _ (by conv => lhs; arg 2; whnf) ?_
   try first | refine ⟨_, fun _ _ => rfl, ?_⟩ | refine ⟨_, fun _ _ _ => rfl, ?_⟩
   go_big_quiet_on
   try simp only [Act.put, sI, sS, sZ]
   refine anyH_quiet 1 rfl (by kernel_rfl) (by kernel_rfl) (by kernel_rfl) (fun _ _ _ _ h => h) rfl rfl hdr ?_
   intro K hK
   conv => arg 2; whnf
   go_big_quiet_op
   try first | refine ⟨_, fun _ _ => rfl, ?_⟩ | refine ⟨_, fun _ _ _ => rfl, ?_⟩
   go_big_quiet_on
   try simp only [Act.put, sI, sS, sZ]
   refine anyH_runN 3 rfl (.agg (vb nE)) (fun w => run_built w 57 [(0, .int .u8 88)] _ HBN.out #[(0, .const (.int .u8 88))] rfl (by kernel_rfl)) (by kernel_rfl) (by kernel_rfl) (by kernel_rfl) (fun _ _ _ h => h) rfl hdr _ (by conv => lhs; arg 2; whnf) ?_
   try simp only [Act.put, sI, sS, sZ]
   refine anyH_quiet 4 rfl (by kernel_rfl) (by kernel_rfl) (by kernel_rfl) (fun _ _ _ _ h => h) rfl rfl hdr ?_
   intro K hK
   conv => arg 2; whnf
   go_big_quiet_op
   try first | refine ⟨_, fun _ _ => rfl, ?_⟩ | refine ⟨_, fun _ _ _ => rfl, ?_⟩
   go_big_quiet_on
   try simp only [Act.put, sI, sS, sZ]
   have hU : Below W6.heap.size W6 W6.drew := (jE _ _).drew
   generalize W6.drew = U at *
   clear hdr
   refine anyH_two 2 9 (by kernel_rfl) rfl rfl rfl rfl ?_ ?_
   ·refine op_call (by kernel_rfl) _ (fun v => by conv => lhs; arg 2; whnf) ((HKYF.out U).mono ?_)
    rintro e U1 ⟨rfl, hbU1⟩
    have hU1 : Below W6.heap.size W6 U1 := hU.trans (hbU1.mono hU.size)
    refine ⟨_, rfl, Ext.of hU1, ?_⟩
    try simp only [Act.put, sI, sS, sZ]
    refine anyH_two 5 9 (by kernel_rfl) rfl rfl rfl rfl ?_ ?_
    ·refine op_call (by kernel_rfl) _ (fun v => by conv => lhs; arg 2; whnf) ((HCHC.out U1 hU1).mono ?_)
     rintro e U2 ⟨c, rfl, hck, hbU2⟩
     have hU2 : Below W6.heap.size W6 U2 := hU1.trans (hbU2.mono hU1.size)
     refine ⟨_, rfl, Ext.of hU2, ?_⟩
     try simp only [Act.put, sI, sS, sZ]
     refine anyH_quiet 6 rfl (by kernel_rfl) (by kernel_rfl) (by kernel_rfl) (fun _ _ _ _ h => h) rfl rfl (Ext.of hU2) ?_
     intro K hK
     conv => arg 2; whnf
     go_big_quiet_op
     try first | refine ⟨_, fun _ _ => rfl, ?_⟩ | refine ⟨_, fun _ _ _ => rfl, ?_⟩
     go_big_quiet_on
     try simp only [Act.put, sI, sS, sZ]
     refine anyH_quiet 7 rfl (by kernel_rfl) (by kernel_rfl) (by kernel_rfl) (fun _ _ _ _ h => h) rfl rfl (Ext.of hU2) ?_
     intro K hK
     conv => arg 2; whnf
     go_big_quiet_op
     try first | refine ⟨_, fun _ _ => rfl, ?_⟩ | refine ⟨_, fun _ _ _ => rfl, ?_⟩
     go_big_quiet_on
     try simp only [Act.put, sI, sS, sZ]
     refine anyH_quiet 8 rfl (by kernel_rfl) (by kernel_rfl) (by kernel_rfl) (fun _ _ _ _ h => h) rfl rfl (Ext.of hU2) ?_
     intro K hK
     conv => arg 2; whnf
     go_big_quiet_op
     try first | refine ⟨_, fun _ _ => rfl, ?_⟩ | refine ⟨_, fun _ _ _ => rfl, ?_⟩
     go_big_quiet_on
     try simp only [Act.put, sI, sS, sZ]
     refine anyH_op 9 (by kernel_rfl) rfl rfl ?_
     have hU3 : Below W6.heap.size W6 (U2.alloc (.cells zCh 52)) := hU2.alloc hU2.size _
     refine op_value (run_allocC U2 rfl) _ (by conv => lhs; arg 2; whnf) ⟨Ext.of hU3, ?_⟩
     try simp only [Act.put, sI, sS, sZ]
     have hzU3 : Blk (U2.alloc (.cells zCh 52)) U2.heap.size 52 zCh := Blk.new _ _ _
     obtain ⟨U3, eU3⟩ : ∃ V, V = U2.alloc (.cells zCh 52) := ⟨_, rfl⟩
     rw [← eU3] at hU3 hzU3 ⊢
     refine anyH_op 10 (by kernel_rfl) rfl rfl ?_
     have hzz : Blk U3 U2.heap.size 52 zCh := hzU3
     have hR : Below W6.heap.size W6 (U3.setRow U2.heap.size c) := hU3.trans (below_setRowP _ _ _ (Nat.le_trans hU2.size (jD _)))
     have hRb : Blk (U3.setRow U2.heap.size c) U2.heap.size 52 c := setRow_heap _ _ zCh _ 52 (0, 0) hzz
     have hRK : ChK gone m nE ep bd W6.heap.size c (U3.setRow U2.heap.size c) := by rw [eU3]; exact (hck.base_le hU1.size).next (new_rowP U2 52 zCh c).2
     refine wp_store_row 52 (.tmp 19) (.tmp 88) rfl U2.heap.size c rfl rfl 52 zCh hzz hck.sz.1 hck.sz.2.1 hck.sz.2.2 ?_
     refine ⟨Ext.of hR, ?_⟩
     conv => arg 8; whnf
     try simp only [Act.put, sI, sS, sZ]
     refine anyH_quiet 11 rfl (by kernel_rfl) (by kernel_rfl) (by kernel_rfl) (fun _ _ _ _ h => h) rfl rfl (Ext.of hR) ?_
     intro K hK
     conv => arg 2; whnf
     go_big_quiet_op
     try first | refine ⟨_, fun _ _ => rfl, ?_⟩ | refine ⟨_, fun _ _ _ => rfl, ?_⟩
     go_big_quiet_on
     try simp only [Act.put, sI, sS, sZ]
     refine wpAnyH_done (by kernel_rfl) ?_ _
     go_wp2_with fail
     go_meet
     try subst eU3
     exact ⟨_, c, rfl, rfl, hRb, hRK, hR⟩
    ·have hU2 : Below W6.heap.size W6 (U1.alloc (.cells zCh 52)) := hU1.alloc hU1.size _
     refine op_value (run_allocC U1 rfl) _ (by conv => lhs; arg 2; whnf) ⟨Ext.of hU2, ?_⟩
     try simp only [Act.put, sI, sS, sZ]
     have hzU2 : Blk (U1.alloc (.cells zCh 52)) U1.heap.size 52 zCh := Blk.new _ _ _
     obtain ⟨U2, eU2⟩ : ∃ V, V = U1.alloc (.cells zCh 52) := ⟨_, rfl⟩
     rw [← eU2] at hU2 hzU2 ⊢
     refine anyH_op 5 (by kernel_rfl) rfl rfl ?_
     refine op_call (by kernel_rfl) _ (fun v => by conv => lhs; arg 2; whnf) ((HCHC.out U2 hU2).mono ?_)
     rintro e U3 ⟨c, rfl, hck, hbU3⟩
     have hU3 : Below W6.heap.size W6 U3 := hU2.trans (hbU3.mono hU2.size)
     refine ⟨_, rfl, Ext.of hU3, ?_⟩
     try simp only [Act.put, sI, sS, sZ]
     refine anyH_quiet 6 rfl (by kernel_rfl) (by kernel_rfl) (by kernel_rfl) (fun _ _ _ _ h => h) rfl rfl (Ext.of hU3) ?_
     intro K hK
     conv => arg 2; whnf
     go_big_quiet_op
     try first | refine ⟨_, fun _ _ => rfl, ?_⟩ | refine ⟨_, fun _ _ _ => rfl, ?_⟩
     go_big_quiet_on
     try simp only [Act.put, sI, sS, sZ]
     refine anyH_quiet 7 rfl (by kernel_rfl) (by kernel_rfl) (by kernel_rfl) (fun _ _ _ _ h => h) rfl rfl (Ext.of hU3) ?_
     intro K hK
     conv => arg 2; whnf
     go_big_quiet_op
     try first | refine ⟨_, fun _ _ => rfl, ?_⟩ | refine ⟨_, fun _ _ _ => rfl, ?_⟩
     go_big_quiet_on
     try simp only [Act.put, sI, sS, sZ]
     refine anyH_quiet 8 rfl (by kernel_rfl) (by kernel_rfl) (by kernel_rfl) (fun _ _ _ _ h => h) rfl rfl (Ext.of hU3) ?_
     intro K hK
     conv => arg 2; whnf
     go_big_quiet_op
     try first | refine ⟨_, fun _ _ => rfl, ?_⟩ | refine ⟨_, fun _ _ _ => rfl, ?_⟩
     go_big_quiet_on
     try simp only [Act.put, sI, sS, sZ]
     refine anyH_op 10 (by kernel_rfl) rfl rfl ?_
     have hzz : Blk U3 U1.heap.size 52 zCh := hzU2.below hbU3 hzU2.lt
     have hR : Below W6.heap.size W6 (U3.setRow U1.heap.size c) := hU3.trans (below_setRowP _ _ _ (Nat.le_trans hU1.size (jD _)))
     have hRb : Blk (U3.setRow U1.heap.size c) U1.heap.size 52 c := setRow_heap _ _ zCh _ 52 (0, 0) hzz
     have hRK : ChK gone m nE ep bd W6.heap.size c (U3.setRow U1.heap.size c) := (hck.off (setRow_only _ _ _) hzU2.lt).base_le hU2.size
     refine wp_store_row 52 (.tmp 19) (.tmp 88) rfl U1.heap.size c rfl rfl 52 zCh hzz hck.sz.1 hck.sz.2.1 hck.sz.2.2 ?_
     refine ⟨Ext.of hR, ?_⟩
     conv => arg 8; whnf
     try simp only [Act.put, sI, sS, sZ]
     refine anyH_quiet 11 rfl (by kernel_rfl) (by kernel_rfl) (by kernel_rfl) (fun _ _ _ _ h => h) rfl rfl (Ext.of hR) ?_
     intro K hK
     conv => arg 2; whnf
     go_big_quiet_op
     try first | refine ⟨_, fun _ _ => rfl, ?_⟩ | refine ⟨_, fun _ _ _ => rfl, ?_⟩
     go_big_quiet_on
     try simp only [Act.put, sI, sS, sZ]
     refine wpAnyH_done (by kernel_rfl) ?_ _
     go_wp2_with fail
     go_meet
     try subst eU3
     exact ⟨_, c, rfl, rfl, hRb, hRK, hR⟩
   ·have hU1 : Below W6.heap.size W6 (U.alloc (.cells zCh 52)) := hU.alloc hU.size _
    refine op_value (run_allocC U rfl) _ (by conv => lhs; arg 2; whnf) ⟨Ext.of hU1, ?_⟩
    try simp only [Act.put, sI, sS, sZ]
    have hzU1 : Blk (U.alloc (.cells zCh 52)) U.heap.size 52 zCh := Blk.new _ _ _
    obtain ⟨U1, eU1⟩ : ∃ V, V = U.alloc (.cells zCh 52) := ⟨_, rfl⟩
    rw [← eU1] at hU1 hzU1 ⊢
    refine anyH_op 2 (by kernel_rfl) rfl rfl ?_
    refine op_call (by kernel_rfl) _ (fun v => by conv => lhs; arg 2; whnf) ((HKYF.out U1).mono ?_)
    rintro e U2 ⟨rfl, hbU2⟩
    have hU2 : Below W6.heap.size W6 U2 := hU1.trans (hbU2.mono hU1.size)
    refine ⟨_, rfl, Ext.of hU2, ?_⟩
    try simp only [Act.put, sI, sS, sZ]
    refine anyH_op 5 (by kernel_rfl) rfl rfl ?_
    refine op_call (by kernel_rfl) _ (fun v => by conv => lhs; arg 2; whnf) ((HCHC.out U2 hU2).mono ?_)
    rintro e U3 ⟨c, rfl, hck, hbU3⟩
    have hU3 : Below W6.heap.size W6 U3 := hU2.trans (hbU3.mono hU2.size)
    refine ⟨_, rfl, Ext.of hU3, ?_⟩
    try simp only [Act.put, sI, sS, sZ]
    refine anyH_quiet 6 rfl (by kernel_rfl) (by kernel_rfl) (by kernel_rfl) (fun _ _ _ _ h => h) rfl rfl (Ext.of hU3) ?_
    intro K hK
    conv => arg 2; whnf
    go_big_quiet_op
    try first | refine ⟨_, fun _ _ => rfl, ?_⟩ | refine ⟨_, fun _ _ _ => rfl, ?_⟩
    go_big_quiet_on
    try simp only [Act.put, sI, sS, sZ]
    refine anyH_quiet 7 rfl (by kernel_rfl) (by kernel_rfl) (by kernel_rfl) (fun _ _ _ _ h => h) rfl rfl (Ext.of hU3) ?_
    intro K hK
    conv => arg 2; whnf
    go_big_quiet_op
    try first | refine ⟨_, fun _ _ => rfl, ?_⟩ | refine ⟨_, fun _ _ _ => rfl, ?_⟩
    go_big_quiet_on
    try simp only [Act.put, sI, sS, sZ]
    refine anyH_quiet 8 rfl (by kernel_rfl) (by kernel_rfl) (by kernel_rfl) (fun _ _ _ _ h => h) rfl rfl (Ext.of hU3) ?_
    intro K hK
    conv => arg 2; whnf
    go_big_quiet_op
    try first | refine ⟨_, fun _ _ => rfl, ?_⟩ | refine ⟨_, fun _ _ _ => rfl, ?_⟩
    go_big_quiet_on
    try simp only [Act.put, sI, sS, sZ]
    refine anyH_op 10 (by kernel_rfl) rfl rfl ?_
    have hzz : Blk U3 U.heap.size 52 zCh := (hzU1.below hbU2 hzU1.lt).below hbU3 (jH hzU1.lt hbU2.size)
    have hR : Below W6.heap.size W6 (U3.setRow U.heap.size c) := hU3.trans (below_setRowP _ _ _ (Nat.le_trans hU.size (jD _)))
    have hRb : Blk (U3.setRow U.heap.size c) U.heap.size 52 c := setRow_heap _ _ zCh _ 52 (0, 0) hzz
    have hRK : ChK gone m nE ep bd W6.heap.size c (U3.setRow U.heap.size c) := (hck.off (setRow_only _ _ _) (jH hzU1.lt hbU2.size)).base_le hU2.size
    refine wp_store_row 52 (.tmp 19) (.tmp 88) rfl U.heap.size c rfl rfl 52 zCh hzz hck.sz.1 hck.sz.2.1 hck.sz.2.2 ?_
    refine ⟨Ext.of hR, ?_⟩
    conv => arg 8; whnf
    try simp only [Act.put, sI, sS, sZ]
    refine anyH_quiet 11 rfl (by kernel_rfl) (by kernel_rfl) (by kernel_rfl) (fun _ _ _ _ h => h) rfl rfl (Ext.of hR) ?_
    intro K hK
    conv => arg 2; whnf
    go_big_quiet_op
    try first | refine ⟨_, fun _ _ => rfl, ?_⟩ | refine ⟨_, fun _ _ _ => rfl, ?_⟩
    go_big_quiet_on
    try simp only [Act.put, sI, sS, sZ]
    refine wpAnyH_done (by kernel_rfl) ?_ _
    go_wp2_with fail
    go_meet
    try subst eU3
    exact ⟨_, c, rfl, rfl, hRb, hRK, hR⟩
  case rest =>
   obtain ⟨g19, c, rfl, rfl, hbl, hck, hbc⟩ := hcut
   have HBX := Li (HB6.out.trans (hbc.mono HB6.out.size))
   have H6X := Li hbc
   have HMX := Li (show RdP wc wc.heap.size Am2 m from (Rd.below (show Rd W6 W6.heap.size Am2 (pcs m) from HM26.out) hbc).more hbc.size)
   have HCC := Li (fun X (hb : Below wc.heap.size wc X) => show Calls Tryz.prog 14 #[.slice Am2 m.length cm2] X fun e w' => e = .returned (.int .i64 en) ∧ Below X.heap.size X w' by
    rw [HEN.out]
    exact rcheck_c Am2 cm2 m X ((Rd.below (show Rd wc wc.heap.size Am2 (pcs m) from HMX.out) hb).more hb.size) (by have := HML.out; omega) (fun p hp => (HMK.out p hp).2))
   have HC0 := Li (HCC.out wc (jE _ _))
   rcases hck with ⟨hm0, g', cg', rfl, hog⟩ | ⟨hm0, hk0, rfl⟩ | ⟨hm0, hk0, g', cg', b, Ab, cb, rfl, hog, hbx, hob, _⟩
   ·have hm : m = [] := List.eq_nil_of_length_eq_zero hm0
    have hen0 : en = 0 := by rw [HEN.out, hm]; decide +kernel
    clear HEN
    subst hen0
    obtain ⟨_, _, e9, _, _, hrg⟩ := hog.rd
    injection e9 with e9a _ e9c
    subst e9a e9c
    have HRG := Li hrg
    have HBL := Li hbl
    have q2 : (m.length : Int) = 0 := by omega
    have c0 : wc.cell? ⟨g19, 0, none⟩ = some (.int .i64 5) := (hbl.cell 0).trans rfl
    have c42 : wc.cell? ⟨g19, 42, none⟩ = some (.slice g' gone.length cg') := (hbl.cell 42).trans rfl
    have c43 : wc.cell? ⟨g19, 43, none⟩ = some (.slice none 0 0) := (hbl.cell 43).trans rfl
    clear hrg hog hbl hm0 hm hbc HSEF HBDL HKYF HCHC
    go_wp2_with (first
     | (go_at_call 14; (with_reducible refine HC0.out.mono ?_); rintro e X ⟨rfl, hb⟩; have HX1 := Li (HBX.out.trans (hb.mono HBX.out.size)); have d0 : X.cell? ⟨g19, 0, none⟩ = some (.int .i64 5) := (hb.cell (p := ⟨g19, 0, none⟩) HBL.out.lt).trans c0; have d42 : X.cell? ⟨g19, 42, none⟩ = some (.slice g' gone.length cg') := (hb.cell (p := ⟨g19, 42, none⟩) HBL.out.lt).trans c42; have HB1X := Li hb; have HSN2 := Li (samen_c X.heap.size X.heap.size g' Ag2 cg' cg2 gone X ((Rd.below (show Rd wc wc.heap.size g' (nnC gone) from HRG.out) hb).more hb.size) ((Rd.below (show Rd W6 W6.heap.size Ag2 (nnC gone) from HG26.out) (H6X.out.trans (hb.mono H6X.out.size))).more (H6X.out.trans (hb.mono H6X.out.size)).size) HGX.out (by have := HGN.out; omega)); clear hb)
     | (go_at_call 10; (with_reducible refine HSN2.out.mono ?_); rintro e X2 ⟨rfl, nq, hd5⟩; have HX2 := Li (show Below w.heap.size w X2 by rw [hd5]; exact belowDrewN nq HX1.out); have d43 : X2.cell? ⟨g19, 43, none⟩ = some (.slice none 0 0) := (by rw [hd5]; exact ((belowDrewN nq (jE X.heap.size X)).cell (p := ⟨g19, 43, none⟩) (jH HBL.out.lt HB1X.out.size)).trans ((HB1X.out.cell (p := ⟨g19, 43, none⟩) HBL.out.lt).trans c43)); have HAW := Li (HAWF.out X2 HX2.out); clear hd5)
     | (go_at_call 6; (with_reducible refine HAW.out.mono ?_); rintro e W9 ⟨rfl, hb⟩; have HB9 := Li (HX2.out.trans (hb.mono HX2.out.size)); clear hb))
    go_ret
    exact ⟨rfl, HB9.out⟩
   ·have s2 : ¬ en = 0 := by rw [HEN.out]; omega
    have s1 : (en != 0) = true := by simp [s2]
    clear HEN hm0 hk0 hbl hbc HSEF HBDL HKYF HCHC
    go_wp2_with (first
     | (go_at_call 14; (with_reducible refine HC0.out.mono ?_); rintro e X ⟨rfl, hb⟩; have HX1 := Li (HBX.out.trans (hb.mono HBX.out.size)); have HC2 := Li (HCC.out X hb); clear hb HC0)
     | (go_at_call 14; (with_reducible refine HC2.out.mono ?_); rintro e X2 ⟨rfl, hb⟩; have HX2 := Li (HX1.out.trans (hb.mono HX1.out.size)); have HAW := Li (HAWF.out X2 HX2.out); clear hb HC2)
     | (go_at_call 6; (with_reducible refine HAW.out.mono ?_); rintro e W9 ⟨rfl, hb⟩; have HB9 := Li (HX2.out.trans (hb.mono HX2.out.size)); clear hb))
    go_ret
    exact ⟨rfl, HB9.out⟩
   ·have hen0 : en = 0 := by rw [HEN.out, hk0]; rfl
    clear HEN
    subst hen0
    obtain ⟨_, _, e9, _, _, hrg⟩ := hog.rd
    injection e9 with e9a _ e9c
    subst e9a e9c
    have HRG := Li hrg
    have HBL := Li hbl
    have HBXX := Li hbx
    have HOB := Li hob
    have q2 : ¬ (m.length : Int) = 0 := by omega
    have q5 : ((m.length : Int) == 0) = false := by rw [beq_eq_false_iff_ne]; omega
    have q6 : ¬ m = [] := fun h => by rw [h] at hm0; cases hm0
    have c0 : wc.cell? ⟨g19, 0, none⟩ = some (.int .i64 5) := (hbl.cell 0).trans rfl
    have c42 : wc.cell? ⟨g19, 42, none⟩ = some (.slice g' gone.length cg') := (hbl.cell 42).trans rfl
    have c43 : wc.cell? ⟨g19, 43, none⟩ = some (.slice (some ⟨b, 0, none⟩) 1 1) := (hbl.cell 43).trans rfl
    have HSEF := Li (HSEF.out hk0)
    have HBDL := Li (HBDL.out hk0)
    clear hrg hog hbl hm0 hk0 hbc hbx hob HCHC
    go_upto_region 18 with (first
     | (go_at_call 14; (with_reducible refine HC0.out.mono ?_); rintro e X ⟨rfl, hb⟩; have HX1 := Li (HBX.out.trans (hb.mono HBX.out.size)); have d0 : X.cell? ⟨g19, 0, none⟩ = some (.int .i64 5) := (hb.cell (p := ⟨g19, 0, none⟩) HBL.out.lt).trans c0; have d42 : X.cell? ⟨g19, 42, none⟩ = some (.slice g' gone.length cg') := (hb.cell (p := ⟨g19, 42, none⟩) HBL.out.lt).trans c42; have HB1X := Li hb; have HSN2 := Li (samen_c X.heap.size X.heap.size g' Ag2 cg' cg2 gone X ((Rd.below (show Rd wc wc.heap.size g' (nnC gone) from HRG.out) hb).more hb.size) ((Rd.below (show Rd W6 W6.heap.size Ag2 (nnC gone) from HG26.out) (H6X.out.trans (hb.mono H6X.out.size))).more (H6X.out.trans (hb.mono H6X.out.size)).size) HGX.out (by have := HGN.out; omega)); clear hb)
     | (go_at_call 10; (with_reducible refine HSN2.out.mono ?_); rintro e X2 ⟨rfl, nq, hd5⟩; have HX2 := Li (show Below w.heap.size w X2 by rw [hd5]; exact belowDrewN nq HX1.out); have HXX := Li (show Below wc.heap.size wc X2 by rw [hd5]; exact belowDrewN nq HB1X.out); clear hd5))
    have hlz : g19 < X2.heap.size := jH HBL.out.lt HXX.out.size
    have z43 : ∀ z : Ext X2, z.wd.cell? ⟨g19, 43, none⟩ = some (.slice (some ⟨b, 0, none⟩) 1 1) := fun z => (z.bel.cell (p := ⟨g19, 43, none⟩) hlz).trans ((HXX.out.cell (p := ⟨g19, 43, none⟩) HBL.out.lt).trans c43)
    have HX2B := Li (HBXX.out.below HXX.out HBXX.out.lt)
    have HO2 := Li (HOB.out.next HXX.out)
    have HRX2 := Li (show RdP X2 X2.heap.size Am2 m from (Rd.below (show Rd wc wc.heap.size Am2 (pcs m) from HMX.out) HXX.out).more HXX.out.size)
    have HAW := Li (fun W (hb : Below X2.heap.size X2 W) => HAWF.out W (HX2.out.trans (hb.mono HX2.out.size)))
    have HBI := Li (show (Tryz.prog.info? 61).map (·.size) = some (bxV tenT ep nE Ab bd.length cb).size from bxSz _ _ _ _ _ HNBL.out.1)
    have HSM := Li (fun W A5 c5 (hA : Rd W W.heap.size Ab (byt bd)) (h5 : Rd W W.heap.size A5 (byt bd)) => show Calls Tryz.prog 15 #[.agg (bxV tenT ep nE Ab bd.length cb), .agg (bxV tenT ep nE A5 bd.length c5)] W fun e w' => e = .returned (.bool true) ∧ Below W.heap.size W w' by
     have h := rsame16_c tenT tenT ep ep nE nE bd bd Ab A5 cb c5 W HNBL.out.1 HNBL.out.1 HNBL.out.2 HNBL.out.2 hA h5 HBDL.out.1 HBDL.out.1 HBDL.out.2 HBDL.out.2
     rw [sameBx_self] at h
     exact h)
    have HRA2 := Li (show Rd X2 X2.heap.size Ab (byt bd) by
     obtain ⟨A9, c9, e9, _, _, r9⟩ := HO2.out.rd
     injection e9 with e9a _ _
     rw [e9a]; exact r9)
    clear c43 c42 c0 d0 d42 hlz HC0 HCC HSN2 HAWF
    refine wp_region_loud X2 [138] (fun _ u W => RBox tenT ep nE bd X2.heap.size u W) (by kernel_rfl) (by kernel_rfl) (by kernel_rfl) (by kernel_rfl) (fun k u w1 w2 h hb => h.next hb) (jE _ _).drew ?_
    repeat (first
     | (refine wpLoud_loadB rfl rfl 61 (.tmp 131) rfl b 0 rfl (bxV tenT ep nE Ab bd.length cb) _ (fun z => rangeAt_blk (HX2B.out.below z.bel HX2B.out.lt)) Tryz.underlying61 rfl (by rw [Array.length_toList]; exact HBI.out) _ (by simp only [Act.put, sI, sS, sZ]; rfl) ?_)
     | (refine wpLoud_call 134 rfl [] (.agg kE) 13 (fun g => #[.int .u32 (ep : Int)]) rfl (fun _ _ h => by cases h) rfl (fun g w => by kernel_rfl) (fun g y hg => by
       refine (HKYF.out y.wd).mono ?_
       rintro e w' ⟨rfl, hb⟩
       exact ⟨_, rfl, hb, rfl⟩) _ (by simp only [Act.put, sI, sS, sZ]; rfl) ?_)
     | (refine wpLoud_valDP 135 rfl rfl (by kernel_rfl) (fun _ _ h => by cases h) (.agg (vb nE)) (fun x => by exact run_built _ 57 [(0, .int .u8 88)] _ HBN.out #[(0, .const (.int .u8 88))] rfl (by kernel_rfl)) _ (by simp only [Act.put, sI, sS, sZ]; rfl) ?_)
     | (refine wpLoud_call 138 rfl [] tok 16 (fun g => #[.agg kE, .agg (vb nE), .string tenT, .int .u32 (ep : Int), .slice Am2 m.length cm2]) rfl (fun _ _ h => by cases h) rfl (fun g w => by kernel_rfl) (fun g y hg => by
       refine (HSEF.out y.wd Am2 cm2 ((Rd.below (show Rd X2 X2.heap.size Am2 (pcs m) from HRX2.out) y.bel).more y.bel.size)).mono ?_
       rintro e w' ⟨u, rfl, ⟨A5, c5, e5, ho⟩, hb⟩
       exact ⟨u, rfl, hb, ⟨A5, c5, e5, own_base_le ho y.bel.size⟩⟩) _ (by simp only [Act.put, sI, sS, sZ]; rfl) ?_)
     | (refine wpLoud_call 139 rfl [138] (.bool true) 15 (fun g => #[.agg (bxV tenT ep nE Ab bd.length cb), g 138]) rfl (fun _ _ h => by cases h) rfl (fun g w => by kernel_rfl) (fun g y hg => by
       obtain ⟨A5, c5, e5, ho⟩ : RBox tenT ep nE bd X2.heap.size (g 138) y.wd := hg 138 (by simp)
       obtain ⟨A6, c6, e6, _, _, r6⟩ := ho.rd
       injection e6 with e6a _ e6c
       subst e6a e6c
       show Calls _ _ #[_, g 138] _ _
       rw [e5]
       refine (HSM.out y.wd A5 c5 (Rd.ups (Rd.below HRA2.out y.bel) y.bel.size) r6).mono ?_
       rintro e w' ⟨rfl, hb⟩
       exact ⟨_, rfl, hb, rfl⟩) _ (by simp only [Act.put, sI, sS, sZ]; rfl) ?_)
     | (refine wpLoud_call 142 rfl [] (.bool true) 6 (fun g => #[]) rfl (fun _ _ h => by cases h) rfl (fun g w => by kernel_rfl) (fun g y hg => by
       refine (HAW.out y.wd y.bel).mono ?_
       rintro e w' ⟨rfl, hb⟩
       exact ⟨_, rfl, hb, rfl⟩) _ (by simp only [Act.put, sI, sS, sZ]; rfl) ?_)
     | (refine wpLoud_valDP 126 rfl rfl (by kernel_rfl) (fun _ _ h => by cases h) (.int .i64 1) (fun x => by kernel_rfl) _ (by simp only [Act.put, sI, sS, sZ]; rfl) ?_)
     | (refine wpLoud_plain rfl rfl rfl ?_; intro K hK; go_big_quiet_op; go_big_quiet_on))
    refine wpLoud_end [] (by rfl) ?_
    intro gg z hg
    have HBZ9 := Li (HX2.out.trans (z.bel.mono HX2.out.size))
    generalize z.wd = V at *
    simp only [fill, Act.put, sI, sS, sZ]
    generalize gg 138 = x138 at *
    go_wp2_with fail
    go_ret
    exact ⟨rfl, HBZ9.out⟩
end Go.Proofs.YtfnhmnbcponkfaaGreatDoor
namespace Go.Proofs.YtfnhmnbcponkfaaGreatDoor
open Go Go.ChangeShapes Go.WideShapes Go.ChangeAt Go.RowKit
theorem shelfNext_reads (os : Os) {H : Type} (enc : TypeId × Value → H) : ∃ places, DataW.whole enc Tryz.prog ((World.doorLaid Tryz.prog 400 os).forCall (fun _ _ => 0) ⟨#[], #[.slice none 0 0, .slice none 0 0, .int .u8 0, .int .i64 0], []⟩).memory Tryz.f3.params.toList Rows.shelfNextSpec.vars false #[Value.slice none 0 0, .slice none 0 0, .int .u8 0, .int .i64 0].toList 8 = some ([.nil, .nil, .lit (.int .u8 0), .lit (.int .i64 0)], [], places) :=
 ⟨[], by kernel_rfl⟩
theorem shelfNext_lifted (os : Os) (started : os.Started) (H : Type) (enc : TypeId × Value → H) (F : Stop.Interp) :
  ReturnsInHanded {} Tryz.checked os 3 .any ((Rows.OpenSpec.upto Rows.shelfNextSpec).preRow enc Tryz.prog Tryz.f3 Rows.shelfNextUptoRow.domain false Rows.shelfNextUptoRow.laid) (((Rows.OpenSpec.upto Rows.shelfNextSpec).at F).post enc Tryz.prog Tryz.f3 false true false false) := by
 obtain ⟨places, hx⟩ := shelfNext_reads os enc
 refine liftQU started F _ (by kernel_rfl) Tryz.func3 ⟨rfl, fun H ds h => ?_⟩ rfl (of_decide_eq_true (by kernel_rfl))
  (witnessU (World.doorLaid Tryz.prog 400 os) #[.slice none 0 0, .slice none 0 0, .int .u8 0, .int .i64 0] rfl (World.shaped_of_RefB (by kernel_rfl) (by kernel_rfl)) (by kernel_rfl)
   (OpenSpec.preRow_of_cond 8 hx (by kernel_rfl) (fun k hk => by cases hk; kernel_rfl) (by kernel_rfl) (door_met os _))) ?_
 ·match ds, h with
  | [_, _, _, _], _ => rfl
 ·intro W base args ds ps hq hbk hval hA hlt
  rw [Tryz.params3] at hA hval
  obtain ⟨v0, vs0, d0, ds0, p0, q0, hargs, rfl, rfl, h0, r0⟩ := trodAll_cons hA
  obtain ⟨v1, vs1, d1, ds1, p1, q1, rfl, rfl, rfl, h1, r1⟩ := trodAll_cons r0
  obtain ⟨v2, vs2, d2, ds2, p2, q2, rfl, rfl, rfl, h2, r2⟩ := trodAll_cons r1
  obtain ⟨v3, vs3, d3, ds3, p3, q3, rfl, rfl, rfl, h3, r3⟩ := trodAll_cons r2
  obtain ⟨rfl, rfl, rfl⟩ := trodAll_nil r3
  obtain rfl : args = #[v0, v1, v2, v3] := by cases args; simp_all
  obtain ⟨A0, l0, cap0, rfl, hc0, hm0, hl0, hr0⟩ := open_groups (hval 0 22 v0 rfl rfl) h0
  obtain ⟨A1, l1, cap1, rfl, hl1, hr1, hm1⟩ := open_bytes (hval 1 23 v1 rfl rfl) h1
  have hb0 := row_bulk Tryz.underlying22 h0
  have hbd : Rows.uptoBulk d0 ≤ Rows.uptoBulkAll [d0, d1, d2, d3] := bulk_part (by simp)
  obtain ⟨a2, rfl, rfl, rfl, w2⟩ := open_int Tryz.underlying5 (hval 2 5 v2 rfl rfl) h2
  have hb2 := bounds_u8 w2
  obtain ⟨n2, rfl⟩ := Int.eq_ofNat_of_zero_le hb2.1
  obtain ⟨a3, rfl, rfl, rfl, w3⟩ := open_int Tryz.underlying2 (hval 3 2 v3 rfl rfl) h3
  exact next29l_c A0 cap0 l0 A1 cap1 l1 n2 a3 W hr0 (by omega) hl0 hr1 hl1 hm1 (by have := hb2.2; omega) hq
theorem shelfNext_row : Rows.ShelfNextUptoSaid :=
 OpenClaim.holds_of_cond 3 Tryz.f3 rfl rfl rfl rfl rfl rfl rfl ⟨rfl, rfl, rfl, rfl, rfl⟩ rfl rfl rfl rfl rfl (by kernel_rfl) Tryz.func3 (by kernel_rfl)
  (of_decide_eq_true (by kernel_rfl)) (by unfold Func.isWrapper; rw [if_neg (by decide +kernel)]; exact ⟨rfl, rfl⟩)
  (fun os started H enc _ F => by rw [OpenClaim.pre_eq_preRow]; exact shelfNext_lifted os started H enc F)
theorem shelfNextUpto_holds : Rows.ShelfNextUptoCardSaid :=
 Claim7.holds_tied_plain_at .later [] [.data] true (true, "60a5121220dda41f468752c168b9a479c8b8da9b6316415510bce16d1c6624df") false
  shelfNext_row (fun _ h => by cases h) (by kernel_rfl) (fun _ h => by cases h) shelfNextUpto_row_tie rfl ⟨rfl, rfl⟩ (by kernel_rfl) rfl
  (fun f fn hf hfn => by
   obtain rfl : f = 3 := Option.some.inj ((show Tryz.prog.funcNamed "quaestor/quaestorlaw29.ShelfNext" = some 3 by kernel_rfl).symm.trans hf) |>.symm
   obtain rfl : fn = Tryz.f3 := (Option.some.inj (Tryz.func3.symm.trans hfn)).symm
   exact ⟨by kernel_rfl, fun j t ht => by
    rw [Tryz.params3] at ht
    have hm : t ∈ [22, 23, 5, 2] := by simpa using Array.mem_of_getElem? ht
    have hall : ([22, 23, 5, 2].all fun u => !Tryz.prog.wantsStandIn u) = true := by kernel_rfl
    exact (show Tryz.prog.wantsStandIn t = false by simpa using List.all_eq_true.1 hall t hm)⟩)
  (by kernel_rfl)
#print axioms shelfNextUpto_holds
end Go.Proofs.YtfnhmnbcponkfaaGreatDoor
