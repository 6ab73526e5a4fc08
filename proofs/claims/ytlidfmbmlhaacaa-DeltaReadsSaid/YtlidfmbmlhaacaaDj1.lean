/- DeltaEven, walked. -/
import Derived.Test.YtlidfmbmlhaacaaDe4
import Derived.Test.YtlidfmbmlhaacaaDi3
namespace Go.Proofs.Ytlidfmbmlhaacaa
open Go.RowKit
set_option linter.unusedVariables false
set_option linter.unusedSimpArgs false
theorem pieceInfo : (Try.prog.info? 31).map (fun i => (i.zero, i.size, i.bytes)) = some (some (.agg zPc), 5, 48) := by kernel_rfl
theorem piece_parts : ∃ i, Try.prog.info? 31 = some i ∧ i.zero = some (.agg zPc) ∧ i.size = 5 ∧ i.bytes = 48 := by
  obtain ⟨i, hi, hi2⟩ := Option.map_eq_some_iff.1 pieceInfo
  simp only [Prod.mk.injEq] at hi2
  exact ⟨i, hi, hi2.1, hi2.2.1, hi2.2.2⟩
theorem pcs_oneCell (l : List Pc) : ∀ u ∈ pcs l, u.oneCell' = true := by
  intro u hu
  obtain ⟨c, hc, hu⟩ := List.mem_flatten.1 hu
  obtain ⟨p, _, rfl⟩ := List.mem_map.1 hc
  simp [pcL] at hu
  rcases hu with rfl | rfl | rfl | rfl | rfl <;> rfl
/-- pieces of the call's own -/
def OwnP (w : World) (base : Nat) (v : Value) (l : List Pc) : Prop := w.ownsRow base 31 5 v l.length (pcs l)
theorem OwnP.rd {w : World} {base : Nat} {v : Value} {l : List Pc} (h : OwnP w base v l) : ∃ A cap, v = .slice A l.length cap ∧ l.length ≤ cap ∧ cap ≤ maxLen ∧ RdP w w.heap.size A l := own_rd h
theorem OwnP.next {w w' : World} {base : Nat} {v : Value} {l : List Pc} (h : OwnP w base v l) (hb : Below w.heap.size w w') : OwnP w' base v l := own_keep (S := fun _ => False) h (Only.of_below hb) (fun _ _ h => h)
theorem OwnP.rdAt {w : World} {base : Nat} {A : Option Addr} {n c : Nat} {l : List Pc} (h : OwnP w base (.slice A n c) l) : RdP w w.heap.size A l := by
  obtain ⟨A', c', e, _, _, h3⟩ := h.rd
  injection e with e1 e2 e3
  rw [e1]; exact h3
theorem OwnP.open_ {w : World} {base : Nat} {A : Option Addr} {n cap : Nat} {l : List Pc} (h : OwnP w base (.slice A n cap) l) (hne : 0 < l.length) : ∃ g rest, A = some ⟨g, 0, none⟩ ∧ base ≤ g ∧ Blk w g 31 (pcs l ++ rest).toArray ∧ l.length ≤ cap ∧ cap ≤ maxLen ∧ rest.length + l.length * 5 = cap * 5 := by
  rcases h.2 with ⟨_, h0⟩ | ⟨g, cap', cur, e, hb, hh, hn, hm, hc, ht⟩
  · omega
  · injection e with e1 e2 e3
    subst e1 e3
    refine ⟨g, cur.toList.drop (l.length * 5), rfl, hb, ?_, hn, hm, ?_⟩
    · unfold Blk
      rw [hh, ← ht, List.take_append_drop]
    · rw [List.length_drop, Array.length_toList, hc]; omega
theorem OwnP.ofBlk {w : World} {base g cap : Nat} {l : List Pc} {rest : List Value} (hg : base ≤ g) (h : Blk w g 31 (pcs l ++ rest).toArray) (hn : l.length ≤ cap) (hm : cap ≤ maxLen) (hr : rest.length + l.length * 5 = cap * 5) : OwnP w base (.slice (some ⟨g, 0, none⟩) l.length cap) l :=
  ⟨pcs_len l, .inr ⟨g, cap, _, rfl, hg, h, hn, hm, by rw [List.size_toArray, List.length_append, pcs_len]; omega, by rw [← pcs_len l]; exact List.take_left⟩⟩
theorem pcs_at (l : List Pc) (k j : Nat) (hk : k < l.length) (hj : j < 5) : (pcs l)[k * 5 + j]? = (pcL (l.getD k pc0))[j]? := by
  rw [← pcs_one l k hk, List.getElem?_take_of_lt hj, List.getElem?_drop]
theorem pcs_setV : ∀ (l : List Pc) (k : Nat) (x : Int) (_ : k < l.length), (pcs l).set (k * 5 + 2) (.int .i64 x) = pcs (l.set k ⟨(l.getD k pc0).s, (l.getD k pc0).t, x, (l.getD k pc0).n, (l.getD k pc0).d⟩)
  | [], _, _, h => by simp at h
  | p :: l, 0, x, _ => rfl
  | p :: l, k + 1, x, h => by
    rw [List.set_cons_succ, pcs_cons, pcs_cons, show (k + 1) * 5 + 2 = (pcL p).length + (k * 5 + 2) by simp [pcL]; omega, List.set_append_right _ _ (by omega), Nat.add_sub_cancel_left, pcs_setV l k x (by simpa using h)]
    rfl
def ivs (vs : List Int) : List Value := vs.map fun v => .int .i64 v
theorem ivs_cell {w : World} {B : Nat} {A : Option Addr} {vs : List Int} (h : Rd w B A (ivs vs)) (k : Nat) (hk : k < vs.length) : ∃ ad, A = some ad ∧ ad.block < B ∧ w.cell? (ad.add k) = some (.int .i64 (vs.getD k 0)) := by
  obtain ⟨ad, e, hb, hc⟩ := h (by unfold ivs; intro h0; rw [List.map_eq_nil_iff] at h0; rw [h0] at hk; simp at hk)
  refine ⟨ad, e, hb, hc k _ ?_⟩
  simp [ivs, List.getD_eq_getElem?_getD, hk]
theorem layR_like {l m : List Pc} (h : l.map noV = m.map noV) (hl : ∀ p ∈ l, PcOk p) (hm : ∀ p ∈ m, PcOk p) : (layR l).length = (layR m).length := by
  unfold layR
  rw [← chkL_like h]
  split
  · rename_i h0; exact layL_like h h0 hl hm
  · rfl
theorem layR_le {l : List Pc} (hl : ∀ p ∈ l, PcOk p) : (layR l).length ≤ 4096 := by
  unfold layR
  split
  · rename_i h0; rw [layL_len h0 hl]; exact (chk_ok h0).2.1
  · simp
set_option maxRecDepth 100000 in
set_option maxHeartbeats 4000000 in
theorem even_c (A1 A2 : Option Addr) (c1 c2 : Nat) (l : List Pc) (vs : List Int) (w : World) (hr : RdP w w.heap.size A1 l) (hv : Rd w w.heap.size A2 (ivs vs)) (hc : l.length ≤ c1) (hl : ∀ p ∈ l, PcOk p ∧ p.s.size ≤ 9223372036854775807) (h1 : l.length ≤ 9223372036854775807) (hvs : ∀ v ∈ vs, -9223372036854775808 ≤ v ∧ v ≤ 9223372036854775807) :
    Calls Try.prog 3 #[.slice A1 l.length c1, .slice A2 vs.length c2] w fun e w' => e = .returned (.bool true) ∧ Below w.heap.size w w' := by
  have HG := Lib.hid (show ∀ W, RdP W w.heap.size A1 l → Calls Try.prog 8 #[.slice A1 l.length c1, .int .i64 120] W fun e w' => e = .returned (.bool (greatB l 120)) ∧ W = w' from fun W h => great_c w.heap.size A1 c1 l 120 W h h1 (by decide) (fun p hp => (hl p hp).2))
  have HR := Lib.hid hr
  cases hgr : greatB l 120 with
  | true =>
    rw [hgr] at HG
    have HAW := Lib.hid (awake14_c w)
    go_enter Try.func3, Try.ntmps3
    go_wp2_with (first
      | (go_at_call 8; (refine (HG.out w HR.out).mono ?_); rintro e W0 ⟨rfl, rfl⟩)
      | (go_at_call 9; (refine HAW.out.mono ?_); rintro e W1 ⟨rfl, hb⟩; have HB := Lib.hid hb; clear hb))
    go_ret
    exact ⟨rfl, HB.out⟩
  | false =>
    rw [hgr] at HG
    obtain ⟨hn, hsz⟩ := greatB_no hgr
    have HK := Lib.hid (fun p (hp : p ∈ l) => show PcOk p ∧ p.s.size ≤ 1000000 from ⟨(hl p hp).1, by have := hsz p hp; omega⟩)
    have HVS := Lib.hid (fun k => vset_ok hvs (n := 1000000) (l := l) k HK.out)
    have HV := Lib.hid hv
    obtain ⟨i0, hi, hz0, hz1, hz2⟩ := piece_parts
    clear hgr hl h1 hsz hv hr hvs
    go_enter Try.func3, Try.ntmps3
    have HO0 := Lib.hid (World.ownsRow_made (base := w.heap.size) (e := 31) (size := 5) w #[] 0 (Nat.le_refl _) (by simp [maxLen]) rfl)
    have HB0 := Lib.hid (show Below w.heap.size w (w.alloc (Obj.cells #[] 31)) from (Below.refl _ _).alloc (Nat.le_refl _) _)
    generalize hW0 : w.alloc (Obj.cells #[] 31) = W0 at *
    go_upto_region 4 with (first
      | (go_at_call 8; (refine (HG.out w HR.out).mono ?_); rintro e W00 ⟨rfl, rfl⟩)
      | (at_builtin; go_loud (refine wpList_app _ rfl (.tmp 14) (.tmp 15) _ rfl w.heap.size 31 i0 (.agg zPc) 5 48 Try.underlying22 hi hz0 hz1 hz2 rfl (by decide) _ _ _ rfl HO0.out _ _ l.length _ (pcs l) rfl (pcs_len l) (Rd.below HR.out HB0.out) (pcs_oneCell l) (by omega) (by omega) HB0.out.size ?_; intro v1 W1 hap; have HO1 := Lib.hid (show OwnP W1 w.heap.size v1 l by have h := hap.own; rw [List.nil_append, Nat.zero_add] at h; exact h); have HB1 := Lib.hid (HB0.out.trans (hap.below HO0.out HB0.out.size)); clear hap)))
    obtain ⟨Am, cm, rfl, hcm, _, _⟩ := HO1.out.rd
    go_wp2_with fail
    go_loopw [6] (fun i wr => ∃ k : Nat, k ≤ l.length ∧ k ≤ vs.length ∧ i = .int .i64 k ∧ OwnP wr w.heap.size (.slice Am l.length cm) (vset vs l k) ∧ Below w.heap.size w wr) (fun i _ => l.length - (intOf i).toNat)
    case atStart => exact ⟨0, Nat.zero_le _, Nat.zero_le _, rfl, by rw [vset_zero]; exact HO1.out, HB1.out⟩
    case round =>
      rename World => wr
      obtain ⟨k, hk, hkv, rfl, ho, hb⟩ := hrel
      have HO := Lib.hid ho
      have HB := Lib.hid hb
      clear ho hb HO1 HB1 HO0 HB0 hW0
      by_cases hlt : k < l.length ∧ k < vs.length
      · obtain ⟨hlt, hltv⟩ := hlt
        have p1 : (k : Int) < (l.length : Int) := by omega
        have p2 : (k : Int) < (vs.length : Int) := by omega
        obtain ⟨ad, rfl, hab, e1⟩ := ivs_cell HV.out k hltv
        have e1 := (HB.out.cell (p := ad.add k) (by rw [add_block]; exact hab)).trans e1
        obtain ⟨g, rest, rfl, hg, hbk, hcc, hcm2, hrl⟩ := HO.out.open_ (by rw [vset_len]; omega)
        have e2 := (hbk.cell (k * 5 + 2)).trans (show (pcs (vset vs l k) ++ rest).toArray[k * 5 + 2]? = some (.int .i64 (l.getD k pc0).v) by
          rw [List.getElem?_toArray, List.getElem?_append_left (by rw [pcs_len, vset_len]; omega), pcs_at _ k 2 (by rw [vset_len]; exact hlt) (by decide), vset_at vs l k hlt k (Nat.le_refl _)]
          rfl)
        have e3 := hbk.free (k * 5 + 2)
        have HBS := Lib.hid (hbk.set_ (k * 5 + 2) (.int .i64 (vs.getD k 0)))
        have HGE := Lib.hid hg
        have HSU := Lib.hid (vset_succ vs l k hltv hlt)
        have HPS := Lib.hid (pcs_setV (vset vs l k) k (vs.getD k 0) (by rw [vset_len]; exact hlt))
        rw [vset_at vs l k hlt k (Nat.le_refl _), ← HSU.out] at HPS
        have HRL := Lib.hid hrl
        generalize hx : vs.getD k 0 = x at *
        generalize (l.getD k pc0).v = y at *
        clear hbk hg HSU hx hrl
        go_wp2_with fail
        go_roundw
        case rel =>
          refine ⟨k + 1, by omega, by omega, by go_num, ?_, ?_⟩
          · have h := HBS.out
            rw [List.setIfInBounds_toArray, List.set_append_left _ _ (by rw [pcs_len, vset_len]; omega), HPS.out] at h
            have h2 := OwnP.ofBlk (cap := cm) HGE.out h (by rw [vset_len] at hcc ⊢; exact hcc) hcm2 (by have := HRL.out; rw [vset_len] at this ⊢; exact this)
            rw [vset_len] at h2
            exact h2
          · exact HB.out.setCell HGE.out _
        case measure => simp only [intOf]; omega
      · have HMK := Lib.hid (HVS.out k)
        have HLK := Lib.hid (show (vset vs l k).map noV = l.map noV from vset_noV vs l k)
        have HML := Lib.hid (vset_len vs l k)
        generalize hM : vset vs l k = M at *
        have HCK := Lib.hid (chkL_like HLK.out)
        have HLL := Lib.hid (layR_like HLK.out (fun p hp => (HMK.out p hp).1) (fun p hp => (HK.out p hp).1))
        have hle := layR_le (fun p hp => (HK.out p hp).1)
        have HL1 := Lib.hid (lay_c A1 c1 l wr ((Rd.below HR.out HB.out).more HB.out.size) hc (by omega) HK.out)
        have HL2 := Lib.hid (show ∀ W, Below wr.heap.size wr W → Calls Try.prog 10 #[.slice Am l.length cm] W fun e w' => ∃ v, e = .returned (.tuple #[v, .int .i64 (chkL l : Nat)]) ∧ OwnB w' W.heap.size v (layR M) ∧ Below W.heap.size W w' from fun W hbw => by
          have h := lay_c Am cm M W ((Rd.below HO.out.rdAt hbw).more hbw.size) (by rw [HML.out]; exact hcm) (by rw [HML.out]; omega) HMK.out
          rw [HML.out, HCK.out] at h
          exact h)
        generalize layR M = X2 at *
        generalize layR l = X1 at *
        generalize chkL l = e0 at *
        have HX1 := Lib.hid (show X1.length = X1.length from rfl)
        generalize hx1 : X1.length = n1 at *
        rcases Nat.lt_or_ge k l.length with hkl | hkl
        · have p1 : (k : Int) < (l.length : Int) := by omega
          have p2 : ¬ (k : Int) < (vs.length : Int) := by omega
          clear hlt
          go_wp2_with (first
            | (go_at_call 10; (with_reducible refine HL1.out.mono ?_); rintro e W2 ⟨v2, rfl, ho, hb⟩; obtain ⟨A2', c2', rfl, _, _, _⟩ := ho.rd; rw [hx1]; have HB2 := Lib.hid hb; clear ho hb)
            | (go_at_call 10; (with_reducible refine (HL2.out W2 HB2.out).mono ?_); rintro e W3 ⟨v3, rfl, ho, hb⟩; obtain ⟨A3', c3', rfl, _, _, _⟩ := ho.rd; rw [HLL.out]; have HB3 := Lib.hid ((HB.out.trans (HB2.out.mono HB.out.size)).trans (hb.mono (Nat.le_trans HB.out.size HB2.out.size))); clear ho hb)
            | (go_at_call 9; (with_reducible refine (awake14_c W3).mono ?_); rintro e W4 ⟨rfl, hb⟩; have HB4 := Lib.hid (HB3.out.trans (hb.mono HB3.out.size)); clear hb))
          go_ret
          exact ⟨rfl, HB4.out⟩
        · have p1 : ¬ (k : Int) < (l.length : Int) := by omega
          clear hlt
          go_wp2_with (first
            | (go_at_call 10; (with_reducible refine HL1.out.mono ?_); rintro e W2 ⟨v2, rfl, ho, hb⟩; obtain ⟨A2', c2', rfl, _, _, _⟩ := ho.rd; rw [hx1]; have HB2 := Lib.hid hb; clear ho hb)
            | (go_at_call 10; (with_reducible refine (HL2.out W2 HB2.out).mono ?_); rintro e W3 ⟨v3, rfl, ho, hb⟩; obtain ⟨A3', c3', rfl, _, _, _⟩ := ho.rd; rw [HLL.out]; have HB3 := Lib.hid ((HB.out.trans (HB2.out.mono HB.out.size)).trans (hb.mono (Nat.le_trans HB.out.size HB2.out.size))); clear ho hb)
            | (go_at_call 9; (with_reducible refine (awake14_c W3).mono ?_); rintro e W4 ⟨rfl, hb⟩; have HB4 := Lib.hid (HB3.out.trans (hb.mono HB3.out.size)); clear hb))
          go_ret
          exact ⟨rfl, HB4.out⟩
end Go.Proofs.Ytlidfmbmlhaacaa
