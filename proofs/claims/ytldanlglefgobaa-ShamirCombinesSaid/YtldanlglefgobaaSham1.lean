/- Contract: a place's share. -/
import Derived.Test.YtldanlglefgobaaSham0
import Derived.Test.YtldanlglefgobaaFld9
import Derived.Test.YtldanlglefgobaaOnly
import Derived.Test.YtldanlglefgobaaEq
import Derived.Great.BuildSlice
import Derived.Laws.Tables
import Derived.Laws.Rows
import Derived.Deep.MidRow
import Derived.Deep.LoopGhost
import Derived.Deep.CutRange
import Derived.Deep.DeepCutAuto
import Derived.Deep.RegionWith
namespace Go.Proofs.Ytldanlglefgobaa
open Go.RowKit
set_option linter.unusedVariables false
def z33 : Array Value := vb (List.replicate 33 0)
theorem zero_share (w : World) : (zeroValue 48).run Try.prog w = .ok (.agg z33) w := by kernel_rfl
theorem z33_set (x : Nat) : z33.setIfInBounds 0 (.int .u8 x) = vb (x :: List.replicate 32 0) := by kernel_rfl
theorem vb_one (l : List Nat) : (vb l).all (·.oneCell') = true := by
  rw [Array.all_eq_true_iff_forall_mem]
  intro v hv
  simp [vb, byt] at hv
  obtain ⟨n, _, rfl⟩ := hv
  rfl
theorem vb_set (l : List Nat) (i n : Nat) : (vb l).setIfInBounds i (.int .u8 (n : Int)) = vb (l.set i n) := by
  unfold vb byt
  rw [List.setIfInBounds_toArray]
  congr 1
  rw [List.map_set]
theorem cellLt {w : World} {a : Addr} {v : Value} (h : w.cell? a = some v) : a.block < w.heap.size := by
  rcases Nat.lt_or_ge a.block w.heap.size with h1 | h1
  · exact h1
  · simp [World.cell?, Array.getElem?_eq_none h1] at h
theorem vb_at (l : List Nat) (i : Nat) (h : i < l.length) : (vb l)[i]? = some (.int .u8 (l.getD i 0 : Nat)) := by
  rw [vb, List.getElem?_toArray]; exact byt_at h
theorem Blk.row {w : World} {g : Nat} {t : TypeId} {old cs : Array Value} (h : Blk w g t old) : Blk (w.setRow g cs) g t cs := setRow_heap w g old cs t (0, 0) h
theorem Blk.rowFar {w : World} {g k : Nat} {t : TypeId} {cs ds : Array Value} (h : Blk w k t cs) (hk : k ≠ g) : Blk (w.setRow g ds) k t cs := (setRow_other w g k ds hk).trans h
theorem Below.setRow {B : Nat} {a w : World} (h : Below B a w) {g : Nat} (hg : B ≤ g) (cs : Array Value) : Below B a (w.setRow g cs) :=
  ⟨h.os, h.tape, h.output, by simpa using h.size, fun k hk => (setRow_other w g k cs (by omega)).trans (h.block k hk)⟩
theorem bel3 {w : World} (a b c : Obj) : Below w.heap.size w (((w.alloc a).alloc b).alloc c) :=
  (((Below.refl _ _).alloc (Nat.le_refl _) _).alloc (by simp) _).alloc (by simp; omega) _
theorem blk3 {w : World} (a b c : Obj) : (((w.alloc a).alloc b).alloc c).heap[w.heap.size + 1 + 1]? = some c := by
  have h := heap_alloc_new ((w.alloc a).alloc b) c
  have e : ((w.alloc a).alloc b).heap.size = w.heap.size + 1 + 1 := by simp
  rw [e] at h
  exact h
theorem blk2 {w : World} (a b c : Obj) : (((w.alloc a).alloc b).alloc c).heap[w.heap.size + 1]? = some b :=
  (Below.heap_alloc _ _ _ (by simp)).trans (heap_alloc2_new w a b)
theorem blk1 {w : World} (a b c : Obj) : (((w.alloc a).alloc b).alloc c).heap[w.heap.size]? = some a :=
  (Below.heap_alloc _ _ _ (by simp; omega)).trans (heap_alloc2_old w a b)
theorem z33_size : z33.size = 33 := by kernel_rfl
theorem z33_ne : ¬ z33 = #[] := fun h => by have h2 := z33_size; rw [h] at h2; simp at h2
theorem block_lt_tab {w : World} {B : Nat} {t : Array Nat} (h : TabAt w B t) : B < w.heap.size := by
  rcases Nat.lt_or_ge B w.heap.size with h1 | h1
  · exact h1
  · rw [TabAt, Array.getElem?_eq_none h1] at h; cases h
/-- what share keeps in memory -/
structure ShW (T : TypeId) (w : World) (s : List Nat) (l : List Nat) (wr : World) : Prop where
  bs : Blk wr w.heap.size T (vb s)
  br : Blk wr (w.heap.size + 1) 48 z33
  bo : Blk wr (w.heap.size + 2) 48 (vb l)
  bel : Below w.heap.size w wr
theorem ShW.next {T : TypeId} {w wr w' : World} {s l : List Nat} (h : ShW T w s l wr) (hb : Below wr.heap.size wr w') : ShW T w s l w' :=
  ⟨h.bs.below hb h.bs.lt, h.br.below hb h.br.lt, h.bo.below hb h.bo.lt, h.bel.trans (hb.mono h.bel.size)⟩
theorem ShW.set_ {T : TypeId} {w wr : World} {s l : List Nat} (h : ShW T w s l wr) (i v : Nat) : ShW T w s (l.set i v) (wr.setCell ⟨w.heap.size + 1 + 1, i, none⟩ (.int .u8 (v : Int))) :=
  ⟨h.bs.far (by show w.heap.size ≠ w.heap.size + 1 + 1; omega) _, h.br.far (by show w.heap.size + 1 ≠ w.heap.size + 1 + 1; omega) _, by have := h.bo.set_ i (.int .u8 (v : Int)); rw [vb_set] at this; exact this, h.bel.setCell (by show w.heap.size ≤ w.heap.size + 1 + 1; omega) _⟩
theorem ShW.drewN {T : TypeId} {w wr : World} {s l : List Nat} (h : ShW T w s l wr) (n : Nat) : ShW T w s l (wr.drewN n) := ⟨h.bs, h.br, h.bo, belowDrewN n h.bel⟩
set_option maxRecDepth 100000 in
set_option maxHeartbeats 2000000 in
theorem share_c (B : Nat) (s d : List Nat) (x t cap : Nat) (A : Option Addr) (w : World) (ht : TabAt w B ftab) (hs : s.length = 32) (hsl : ∀ c ∈ s, c < 256) (hd : ∀ c ∈ d, c < 256) (hx : x < 256)
    (ht1 : t ≤ 1000000000) (hr : Rd w w.heap.size A (byt d)) (hlen : d.length ≤ 1000000) :
    Calls Try.prog 33 #[.pointer (some ⟨B, 0, none⟩), .agg (vb s), .int .u8 x, .int .i64 t, .slice A d.length cap] w fun e w' => e = .returned (.agg (vb (shr s d t x))) ∧ Below w.heap.size w w' := by
  obtain ⟨i0, hi0, hz0, hz1, hz2⟩ := info_parts byteInfo
  have HT := Lib.hid ht
  have HSL := Lib.hid hsl
  have HD := Lib.hid hd
  have HR := Lib.hid hr
  have zs := zero_share
  have zn := z33_size
  have ze := z33_ne
  clear ht hsl hd hr
  go_enter Try.func33, Try.ntmps33
  go_upto_region 1 with fail
  go_wp2_with (refine wpList_store_rowTo rfl 48 (.tmp 11) (.tmp 17) rfl rfl (w.heap.size + 1 + 1) (vb (x :: List.replicate 32 0)) rfl (congrArg Value.agg (z33_set x)) 48 z33 (by exact blk3 _ _ _) (by kernel_rfl) (by kernel_rfl) (vb_one _) ?_)
  obtain ⟨Z, hZ⟩ : ∃ Z, Z = (((w.alloc (.cells (vb s) 43)).alloc (.cells z33 48)).alloc (.cells z33 48)).setRow (w.heap.size + 1 + 1) (vb (x :: List.replicate 32 0)) := ⟨_, rfl⟩
  have hsh : ShW 43 w s (x :: List.replicate 32 0) Z := by
    rw [hZ]
    exact ⟨Blk.rowFar (blk1 _ _ _) (by omega), Blk.rowFar (blk2 _ _ _) (by omega), Blk.row (old := z33) (blk3 _ _ _), Below.setRow (bel3 _ _ _) (by omega) _⟩
  try simp only [← hZ]
  have HSH := Lib.hid hsh
  clear hsh hZ
  go_loopw [18] (fun i wr => ∃ k : Nat, k ≤ 32 ∧ i = .int .i64 k ∧ ShW 43 w s (x :: sysTo s d t x k) wr) (fun i _ => 32 - (intOf i).toNat)
  case atStart => exact ⟨0, by omega, rfl, by rw [sysTo_zero]; exact HSH.out⟩
  case round =>
    rename World => wr
    obtain ⟨k, hk, rfl, hsh⟩ := hrel
    have HW := Lib.hid hsh
    clear hsh HSH
    by_cases hlt : k < 32
    · have c0 : wr.cell? ⟨w.heap.size, k, none⟩ = some (.int .u8 (s.getD k 0 : Nat)) := (HW.out.bs.cell k).trans (vb_at s k (by omega))
      have hsk : s.getD k 0 < 256 := getD_lt HSL.out k
      have HPL := Lib.hid (show ∀ K, s.getD k 0 :: cf d k (K + 1) = (s.getD k 0 :: cf d k K) ++ [d.getD (32 * K + k) 0] from fun K => by rw [cf_succ]; rfl)
      have HP := Lib.hid (show pl s d t k = s.getD k 0 :: cf d k (kc t d.length k) from rfl)
      generalize s.getD k 0 = sk at *
      obtain ⟨KC, hKC⟩ : ∃ KC, KC = kc t d.length k := ⟨_, rfl⟩
      have hKC2 : KC = min (t - 1) ((d.length + 31 - k) / 32) := hKC
      rw [← hKC] at HP
      have HKC := Lib.hid hKC2
      have hKCl : KC ≤ 100000 := by omega
      clear hKC hKC2
      have hbw : Below w.heap.size w wr := HW.out.bel
      have HBW := Lib.hid hbw
      clear hbw
      go_wp2_with fail
      have e19 : decide ((k : Int) < 32) = true := decide_eq_true (by omega)
      rw [e19]
      go_loopw [13, 14] (fun l j wr2 => ∃ K : Nat, K ≤ KC ∧ j = .int .i64 ((K : Int) + 1) ∧ OwnB wr2 wr.heap.size l (sk :: cf d k K) ∧ Below wr.heap.size wr wr2) (fun _ j _ => t - (intOf j).toNat)
      case atStart => exact ⟨0, by omega, rfl, by exact OwnB.new _ _ [sk] (Nat.le_refl _) (by simp [maxLen]), (Below.refl _ _).alloc (Nat.le_refl _) _⟩
      case round =>
        rename World => wr2
        obtain ⟨K, hK, rfl, ho, hb⟩ := hrel
        have HO := Lib.hid ho
        have HB := Lib.hid hb
        clear ho hb c0
        have hl1 : (sk :: cf d k K).length = K + 1 := by simp [cf_len]
        have HL1 := Lib.hid hl1
        clear hl1
        have finish : K = KC → True := fun _ => trivial
        by_cases h12 : K + 1 < t ∧ 32 * K + k < d.length
        · obtain ⟨h1, h2⟩ := h12
          obtain ⟨ad, hA, hadb, hcell⟩ := (HR.out.below (HBW.out.trans (HB.out.mono HBW.out.size))).byte h2
          subst hA
          obtain ⟨P, hP⟩ : ∃ P, P = 32 * K + k := ⟨_, rfl⟩
          have hat : (32 : Int) * (K : Int) + (k : Int) = (P : Int) := by omega
          rw [← hP] at hcell h2
          have hdv : d.getD P 0 < 256 := getD_lt HD.out P
          have HSN : Hid (sk :: cf d k (K + 1) = (sk :: cf d k K) ++ [d.getD P 0]) := Lib.hid (by rw [hP]; exact HPL.out K)
          have hK2 : K < KC := by have := HKC.out; omega
          have hcell2 : wr2.drew.cell? (ad.add P) = some (.int .u8 (d.getD P 0 : Nat)) := hcell
          clear hP finish
          generalize d.getD P 0 = dv at *
          go_wp2_with (at_builtin; refine wpList_app _ rfl (.tmp 39) (.tmp 44) _ rfl wr.heap.size 5 i0 (.int .u8 0) 1 1 Try.underlying35 hi0 hz0 hz1 hz2 rfl (by decide) _ _ _ rfl (HO.out.alloc _) _ _ 1 1 [.int .u8 (dv : Int)] rfl rfl (by exact rd_one _ _ _) (byt_one [dv]) (by rw [HL1.out]; omega) (by rw [HL1.out]; omega) (by exact Nat.le_trans HB.out.size (by simp)) ?_; intro v1 w2 hap; have ho2 : OwnB w2 wr.heap.size v1 (sk :: cf d k (K + 1)) := (by rw [HSN.out]; exact OwnB.snoc (by simpa using hap)); have hb2 : Below wr.heap.size wr w2 := (HB.out.alloc (by exact HB.out.size) _).trans (hap.below (HO.out.alloc _) (by exact Nat.le_trans HB.out.size (by simp))); have HO2 := Lib.hid ho2; have HB2 := Lib.hid hb2; clear hap ho2 hb2)
          go_roundw
          case rel =>
            go_light
            exact ⟨K + 1, by omega, by go_num, HO2.out, HB2.out⟩
          case measure => simp [intOf]; omega
        · have hKe : K = KC := by have := HKC.out; omega
          subst hKe
          have ho := HO.out
          rw [← HP.out] at ho
          obtain ⟨A3, c3, rfl, hc1, hc2, hr3⟩ := ho.rd
          have HRD := Lib.hid hr3
          have hple : (pl s d t k).length = K + 1 := by rw [HP.out, HL1.out]
          have HPE := Lib.hid hple
          have hpll : ∀ c ∈ pl s d t k, c < 256 := pl_lt HSL.out HD.out t k
          have HPLL := Lib.hid hpll
          have HSH := Lib.hid (HW.out.next HB.out)
          have htb := HT.out.below (HBW.out.trans (HB.out.mono HBW.out.size)) (block_lt_tab HT.out)
          have HTB := Lib.hid htb
          have hv : hv x (pl s d t k) = sy s d t x k := rfl
          have HV := Lib.hid hv
          have hsy : sy s d t x k < 256 := sy_lt HSL.out HD.out t x k
          have hst := sysTo_set s d t x k hlt
          have HST := Lib.hid hst
          have c5 : wr2.cell? ⟨w.heap.size + 1 + 1, 1 + k, none⟩ = some (.int .u8 ((x :: sysTo s d t x k).getD (1 + k) 0 : Nat)) := (HSH.out.bo.cell (1 + k)).trans (vb_at _ _ (by simp [sysTo_len]; omega))
          have f5 : wr2.frozen? ⟨w.heap.size + 1 + 1, 1 + k, none⟩ = false := HSH.out.bo.free (1 + k)
          clear ho hr3 hple hpll htb hv hst finish
          obtain ⟨V, hV⟩ : ∃ V, V = sy s d t x k := ⟨_, rfl⟩
          rw [← hV] at HV HST hsy
          clear hV
          have hcase : ¬ K + 1 < t ∨ (K + 1 < t ∧ ¬ 32 * K + k < d.length) := by omega
          clear h12
          rcases hcase with h1 | ⟨h1, h2⟩
          · go_wp2_with (go_at_call 18; ((with_reducible refine (feval_c B _ A3 c3 x (pl s d t k) _ HTB.out hx HPLL.out HRD.out (by rw [HPE.out]; omega)).mono ?_); rintro e w4 ⟨rfl, n4, rfl⟩; rw [HV.out]))
            go_roundw
            case rel =>
              go_light
              refine ⟨k + 1, by omega, by go_num, ?_⟩
              have h := (HSH.out.drewN n4).set_ (1 + k) V
              rw [Nat.add_comm 1 k, List.set_cons_succ, HST.out] at h
              rw [Nat.add_comm 1 k]
              exact h
            case measure => simp [intOf]; omega
          · obtain ⟨P, hP⟩ : ∃ P, P = 32 * K + k := ⟨_, rfl⟩
            have hat : (32 : Int) * (K : Int) + (k : Int) = (P : Int) := by omega
            rw [← hP] at h2
            clear hP
            go_wp2_with (go_at_call 18; ((with_reducible refine (feval_c B _ A3 c3 x (pl s d t k) _ HTB.out hx HPLL.out HRD.out (by rw [HPE.out]; omega)).mono ?_); rintro e w4 ⟨rfl, n4, rfl⟩; rw [HV.out]))
            go_roundw
            case rel =>
              go_light
              refine ⟨k + 1, by omega, by go_num, ?_⟩
              have h := (HSH.out.drewN n4).set_ (1 + k) V
              rw [Nat.add_comm 1 k, List.set_cons_succ, HST.out] at h
              rw [Nat.add_comm 1 k]
              exact h
            case measure => simp [intOf]; omega
    · have hk32 : k = 32 := by omega
      subst hk32
      have hall := sysTo_all s d t x
      rw [hall] at HW
      clear hall
      have hbo : wr.heap[w.heap.size + 1 + 1]? = some (.cells (vb (x :: sys s d t x)) 48 (0, 0)) := HW.out.bo
      have hbr : wr.heap[w.heap.size + 1]? = some (.cells z33 48 (0, 0)) := HW.out.br
      have hsz : (Try.prog.info? 48).map (·.size) = some 33 := by kernel_rfl
      have hvs : (vb (x :: sys s d t x)).size = 33 := by rw [vb_size, List.length_cons, sys_len]
      have HBO := Lib.hid hbo
      have HBR := Lib.hid hbr
      have HVS := Lib.hid (show (Try.prog.info? 48).map (·.size) = some (vb (x :: sys s d t x)).size by rw [hvs]; exact hsz)
      have HOS := Lib.hid (show z33.size = (vb (x :: sys s d t x)).size by rw [hvs]; exact zn)
      clear hbo hbr hsz hvs
      go_wp2_with (first
        | (refine wpList_load_row rfl 48 (.tmp 11) rfl (w.heap.size + 1 + 1) rfl 48 _ _ _ HBO.out Try.underlying48 rfl HVS.out ?_)
        | (refine wpList_store_rowTo rfl 48 (.tmp 10) (.tmp 54) rfl rfl (w.heap.size + 1) (vb (x :: sys s d t x)) rfl rfl 48 z33 HBR.out HVS.out HOS.out (vb_one _) ?_))
      (try simp only [Exit.inBlock, Exit.then])
      refine bodyPost_ret (results_cell_row rfl _ _ (w.heap.size + 1) 48 (vb (x :: sys s d t x)) (0, 0) _ rfl (Blk.row (old := z33) HBR.out) Try.underlying48 rfl HVS.out) rfl ?_
      exact ⟨rfl, Below.setRow HW.out.bel (by omega) _⟩
end Go.Proofs.Ytldanlglefgobaa
