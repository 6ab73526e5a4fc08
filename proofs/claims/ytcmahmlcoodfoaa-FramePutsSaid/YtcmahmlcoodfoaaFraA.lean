/- FrameGets: the walk. -/
import Derived.Test.YtcmahmlcoodfoaaFra5
import Derived.Test.YtcmahmlcoodfoaaFra9
import Derived.Test.YtcmahmlcoodfoaaWin3
namespace Go.Proofs.Ytcmahmlcoodfoaa
open Go.RowKit Go.Great
set_option linter.unusedVariables false
theorem getF_short {l : List Nat} (h : l.length < 13) : getF l = (zFr, 2) := by unfold getF; rw [if_pos h]
theorem fget_c (A : Option Addr) (c : Nat) (l : List Nat) (w : World) (hl : ∀ c ∈ l, c < 256) (hr : Rd w w.heap.size A (byt l)) (hlen : l.length ≤ 100000) (hc : l.length ≤ c) :
    Calls Try.prog 15 #[.slice A l.length c] w (GetsF (getF l).1 (getF l).2 w) := by
  rcases Nat.lt_or_ge l.length 13 with h | h
  · rw [getF_short h]; exact get_short A c l w h
  · obtain ⟨ad, rfl, _, _⟩ := hr (fun h0 => by have h1 := byt_len l; rw [h0] at h1; simp at h1; omega)
    exact get_main ad c l w hl hr hlen h hc
theorem frget_c (A : Option Addr) (c : Nat) (l : List Nat) (w : World) (hl : ∀ c ∈ l, c < 256) (hr : Rd w w.heap.size A (byt l)) (hlen : l.length ≤ 100000) (hc : l.length ≤ c) :
    Calls Try.prog 16 #[.slice A l.length c] w (GetsF (getF l).1 (getF l).2 w) := by
  rcases Nat.lt_or_ge l.length 13 with h | h
  · rw [getF_short h]; exact rget_short A c l w h
  · obtain ⟨ad, rfl, _, _⟩ := hr (fun h0 => by have h1 := byt_len l; rw [h0] at h1; simp at h1; omega)
    exact rget_main ad c l w hl hr hlen h hc
theorem Fin.one {w : World} {x : Fr} {v : Value} (h : Fin w x v) : (frV x v).all (·.oneCell') = true := by
  obtain ⟨A, c, rfl, _⟩ := h.bd
  exact frV_one _ _ _ _
set_option maxRecDepth 100000 in
set_option maxHeartbeats 1000000 in
theorem frameGets_long (A : Option Addr) (ca : Nat) (l : List Nat) (w : World) (h : 5000 < l.length) :
    Calls Try.prog 4 #[.slice A l.length ca] w (Yes w) := by
  go_enter Try.func4, Try.ntmps4
  go_wp2_with (go_at_call 13; ((with_reducible refine (awake21_c _).mono ?_); rintro e w' ⟨rfl, hb⟩))
  go_ret
  exact ⟨rfl, hb⟩
set_option maxRecDepth 100000 in
set_option maxHeartbeats 2000000 in
theorem frameGets_ok (A : Option Addr) (ca : Nat) (l : List Nat) (w : World) (hl : ∀ c ∈ l, c < 256) (hr : Rd w w.heap.size A (byt l)) (h : l.length ≤ 5000) (hc : l.length ≤ ca) :
    Calls Try.prog 4 #[.slice A l.length ca] w (Yes w) := by
  have zf := zero_frame
  have zs1 : zF.size = 51 := by rfl
  have zs2 : ¬ zF = #[] := by intro h; have := congrArg Array.size h; rw [zs1] at this; cases this
  have HL := Lib.hid hl
  have HR := Lib.hid hr
  have HGT := Lib.hid (fun W A c (h1 : Rd W W.heap.size A (byt l)) (h2 : l.length ≤ c) => fget_c A c l W hl h1 (by omega) h2)
  have HRG := Lib.hid (fun W (h1 : Rd W W.heap.size A (byt l)) => frget_c A ca l W hl h1 (by omega) hc)
  have hsz : l.length ≤ 100000000 := by omega
  have HSZ := Lib.hid hsz
  have HSM := Lib.hid (fun x W v u (h1 : Fin W x v) (h2 : Fin W x u) => (show Calls Try.prog 17 #[.agg (frV x v), .agg (frV x u)] W fun e w' => e = .returned (.bool true) ∧ Below W.heap.size W w' from by
    have h3 := rsame_c x x v u W h1 h2
    rw [(sameF_iff h1.ok h1.ok).2 rfl] at h3
    exact h3))
  clear hl hr hsz
  generalize (getF l).1 = X at *
  generalize (getF l).2 = cd at *
  go_enter Try.func4, Try.ntmps4
  go_upto_region 4 with (go_at_call 14; ((with_reducible refine (lent_c A ca l _ HL.out HR.out HSZ.out).mono ?_); rintro e w1 ⟨rfl, hg1, hb1⟩; have HG1 := Lib.hid hg1; have HB1 := Lib.hid hb1; clear hg1 hb1))
  have HBR := Lib.hid (show Rd w1 w1.heap.size (some ⟨w.heap.size, 0, none⟩) (byt l) from HG1.out.rd.more (by have := HG1.out.lt; omega))
  go_upto_region 5 with (first
    | (go_at_call 15; ((refine (HGT.out _ _ _ HBR.out (by omega)).mono ?_); rintro e w2 ⟨v, rfl, hf, hb⟩; have HF2 := Lib.hid hf; have HB2 := Lib.hid hb; have HSF := Lib.hid (sizeF X v hf.ok); have HZQ := Lib.hid (show zF.size = (frV X v).size by rw [frV_size hf.ok]; rfl); clear hf hb))
    | (refine wpList_store_rowTo rfl 43 (.tmp 4) (.tmp 17) rfl rfl w2.heap.size (frV X v) rfl rfl 43 zF (by exact heap_alloc_new _ _) HSF.out HZQ.out HF2.out.one ?_))
  obtain ⟨w3, hw3⟩ : ∃ w3, w3 = (w2.alloc (Obj.cells zF 43)).setRow w2.heap.size (frV X v) := ⟨_, rfl⟩
  have hb3 : Below w2.heap.size w2 w3 := by rw [hw3]; exact ((Below.refl _ _).alloc (Nat.le_refl _) _).trans (below_setRow (Below.refl _ _) (Nat.le_refl _) _)
  have hk3 : Blk w3 w2.heap.size 43 (frV X v) := by rw [hw3]; exact Blk.row (old := zF) (heap_alloc_new _ _)
  rw [← hw3]
  clear hw3
  have HB3 := Lib.hid (HB1.out.trans ((HB2.out.trans (hb3.mono HB2.out.size)).mono HB1.out.size))
  have HL3 := Lib.hid (show LentAt w3 w.heap.size l from (HG1.out.below HB2.out HG1.out.lt).below hb3 (Nat.lt_of_lt_of_le HG1.out.lt HB2.out.size))
  have HF3 := Lib.hid (HF2.out.next hb3)
  have HK3 := Lib.hid hk3
  have HR3 := Lib.hid ((HR.out.below HB3.out).more HB3.out.size)
  clear hb3 hk3 HB2
  go_upto_region 6 with (first
    | (go_at_call 16; ((refine (HRG.out _ HR3.out).mono ?_); rintro e w4 ⟨u, rfl, hf, hb⟩; have HF4 := Lib.hid hf; have HB4 := Lib.hid hb; have HSF4 := Lib.hid (sizeF X u hf.ok); have HZQ4 := Lib.hid (show zF.size = (frV X u).size by rw [frV_size hf.ok]; rfl); clear hf hb))
    | (refine wpList_store_rowTo rfl 43 (.tmp 6) (.tmp 22) rfl rfl w4.heap.size (frV X u) rfl rfl 43 zF (by exact heap_alloc_new _ _) HSF4.out HZQ4.out HF4.out.one ?_))
  obtain ⟨w5, hw5⟩ : ∃ w5, w5 = (w4.alloc (Obj.cells zF 43)).setRow w4.heap.size (frV X u) := ⟨_, rfl⟩
  have hb5 : Below w4.heap.size w4 w5 := by rw [hw5]; exact ((Below.refl _ _).alloc (Nat.le_refl _) _).trans (below_setRow (Below.refl _ _) (Nat.le_refl _) _)
  have hk5 : Blk w5 w4.heap.size 43 (frV X u) := by rw [hw5]; exact Blk.row (old := zF) (heap_alloc_new _ _)
  rw [← hw5]
  clear hw5
  have HB35 := Lib.hid (HB4.out.trans (hb5.mono HB4.out.size))
  have HB5 := Lib.hid (HB3.out.trans (HB35.out.mono HB3.out.size))
  have HL5 := Lib.hid (show LentAt w5 w.heap.size l from HL3.out.below HB35.out HL3.out.lt)
  have HF5 := Lib.hid (HF3.out.next HB35.out)
  have HF5u := Lib.hid (HF4.out.next hb5)
  have HA4 := Lib.hid (FrAt.of HF3.out.ok (HK3.out.below HB35.out HK3.out.lt))
  have HA6 := Lib.hid (FrAt.of HF4.out.ok hk5)
  have HLV := Lib.hid (len_f HF3.out.ok v)
  have HLU := Lib.hid (len_f HF3.out.ok u)
  clear hb5 hk5
  go_wp2_with (first
    | (refine wpList_loadG rfl 43 (.tmp 4) rfl w2.heap.size 0 rfl (frL X v) _ HA4.out.al Try.underlying43 rfl HLV.out ?_)
    | (refine wpList_loadG rfl 43 (.tmp 6) rfl w4.heap.size 0 rfl (frL X u) _ HA6.out.al Try.underlying43 rfl HLU.out ?_)
    | (go_at_call 17; ((refine (HSM.out X _ v u HF5.out HF5u.out).mono ?_); rintro e w6 ⟨rfl, hb⟩; have HB6 := Lib.hid hb; clear hb))
    | (go_at_call 18; ((refine (kept_c w.heap.size w.heap.size A ca l _ HL.out (HL5.out.below HB6.out HL5.out.lt) (HR.out.below (HB5.out.trans (HB6.out.mono HB5.out.size))) HSZ.out).mono ?_); rintro e w' ⟨rfl, k2, rfl⟩))
    | (go_at_call 13; ((with_reducible refine (awake21_c _).mono ?_); rintro e w' ⟨rfl, hb⟩)))
  go_ret
  exact ⟨rfl, (HB5.out.trans (HB6.out.mono HB5.out.size)).trans ((belowDrewN k2 (Below.refl _ _)).trans (hb.mono (Nat.le_trans HB5.out.size HB6.out.size)))⟩
theorem frameGets_w (A : Option Addr) (ca : Nat) (l : List Nat) (w : World) (hl : ∀ c ∈ l, c < 256) (hr : Rd w w.heap.size A (byt l)) (hc : l.length ≤ ca) :
    Calls Try.prog 4 #[.slice A l.length ca] w (Yes w) := by
  rcases Nat.lt_or_ge 5000 l.length with h | h
  · exact frameGets_long A ca l w h
  · exact frameGets_ok A ca l w hl hr h hc
end Go.Proofs.Ytcmahmlcoodfoaa
