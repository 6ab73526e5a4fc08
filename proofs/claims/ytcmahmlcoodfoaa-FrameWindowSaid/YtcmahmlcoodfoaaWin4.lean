import Derived.Test.YtcmahmlcoodfoaaWin3
namespace Go.Proofs.Ytcmahmlcoodfoaa
open Go.RowKit
/-- at the head of the law's loop -/
structure WR (w : World) (k n : Nat) (s : Wst) (L : List Nat) (v u : Value) (wr : World) : Prop where
  hn : n < 2 ^ 64
  b1 : Blk wr w.heap.size 26 (wcells s)
  b2 : Blk wr (w.heap.size + 1) 30 #[v]
  o1 : OwnK wr (w.heap.size + 2) 22 .u64 v L
  o2 : OwnK wr (w.heap.size + 2) 22 .u64 u L
  inv : WInv s L
  top : s.top < 2 ^ 64
  len : L.length ≤ k
  lt : ∀ x ∈ L, x < 2 ^ 64
  apart : ∀ g, v.ownBlock = some g → u.ownBlock ≠ some g
  bel : Below w.heap.size w wr
  size : w.heap.size + 2 ≤ wr.heap.size
def WRel (w : World) (m : Nat) (N u I : Value) (wr : World) : Prop := ∃ (k n : Nat) (s : Wst) (L : List Nat) (v : Value), k ≤ m ∧ k ≤ 100 ∧ I = .int .i64 k ∧ N = .int .u64 n ∧ WR w k n s L v u wr
theorem wnext_top {s : Wst} {n : Nat} (h : s.top < 2 ^ 64) (hn : n < 2 ^ 64) : (wnext s n).top < 2 ^ 64 := by
  unfold wnext; split
  · exact hn
  · split
    · exact hn
    · split
      · exact h
      · exact h
/-- behind both Takes -/
structure WT (w : World) (k n : Nat) (s : Wst) (L : List Nat) (v u : Value) (wr : World) : Prop where
  hn : n < 2 ^ 64
  b1 : Blk wr w.heap.size 26 (wcells (wnext s n))
  b2 : Blk wr (w.heap.size + 1) 30 #[v]
  o1 : OwnK wr (w.heap.size + 2) 22 .u64 v (rnext L n)
  o2 : OwnK wr (w.heap.size + 2) 22 .u64 u L
  apart : ∀ g, v.ownBlock = some g → u.ownBlock ≠ some g
  bel : Below w.heap.size w wr
  size : w.heap.size + 2 ≤ wr.heap.size
theorem WR.take {w w1 w2 wr : World} {k n n' : Nat} {s : Wst} {L : List Nat} {v u : Value} {e1 e2 : Ending} (h : WR w k n s L v u wr) (hn : n' < 2 ^ 64) (h1 : Took w.heap.size s n' wr e1 w1)
    (h2 : RTook (w.heap.size + 1) (w.heap.size + 2) v L n' w1 e2 w2) : ∃ v', WT w k n' s L v' u w2 := by
  obtain ⟨_, hb, ho⟩ := h1
  obtain ⟨_, v', hb2, hown, ho2, hlies⟩ := h2
  have hsz : w1.heap.size ≥ wr.heap.size := ho.size
  have hs := h.size
  have hbase1 := own_base h.o1
  have hbase2 := own_base h.o2
  have hlt2 := own_lt h.o2
  refine ⟨v', hn, hb.keep ho2 ?_, hb2, hown, ?_, ?_, ?_, by have := ho2.size; omega⟩
  · rintro (h0 | h0)
    · omega
    · have := hbase1 _ h0; omega
  · refine own_keep (own_keep h.o2 ho ?_) ho2 ?_
    · intro g hg h0; have := hbase2 g hg; omega
    · rintro g hg (h0 | h0)
      · have := hbase2 g hg; omega
      · exact h.apart g h0 hg
  · intro g hg hu
    rcases hlies with h0 | ⟨g', h0, hge⟩
    · exact h.apart g (by rw [← h0]; exact hg) hu
    · rw [h0] at hg
      have := hlt2 g hu
      injection hg with hg
      omega
  · refine (h.bel.trans (ho.below (B := w.heap.size) (fun i hi => by omega) (by omega))).trans (ho2.below (B := w.heap.size) ?_ (by omega))
    rintro i (h0 | h0)
    · omega
    · have := hbase1 i h0; omega
theorem WT.keep {w wr : World} {k n n' : Nat} {s : Wst} {L : List Nat} {v v0 u u0 : Value} {w0 : World} (h : WT w k n' s L v u wr) (h0 : WR w k n s L v0 u0 w0) (hg : rgot L n' = false) : WR w (k + 1) n' (wnext s n') L v u wr := by
  have hr : rnext L n' = L := by unfold rnext; rw [hg]; rfl
  exact ⟨h.hn, h.b1, h.b2, by have := h.o1; rwa [hr] at this, h.o2, by have := winv_next h0.inv n'; rwa [hr] at this, wnext_top h0.top h.hn, by have := h0.len; omega, h0.lt, h.apart, h.bel, h.size⟩
theorem WT.more {w wr w2 : World} {k n n' : Nat} {s : Wst} {L : List Nat} {v v0 u u0 u1 : Value} {w0 : World} {o : Obj} (h : WT w k n' s L v u wr) (h0 : WR w k n s L v0 u0 w0) (hg : rgot L n' = true)
    (hap : Apped (wr.alloc o) (w.heap.size + 2) 22 1 u w2 u1 (L.length + 1) (wrd .u64 L ++ [.int .u64 (n' : Int)])) : WR w (k + 1) n' (wnext s n') (L ++ [n']) v u1 w2 := by
  have hr : rnext L n' = L ++ [n'] := by unfold rnext; rw [hg]; rfl
  have hb1 := own_base h.o1
  have hb2 := own_base h.o2
  have ho : Only (fun k => u.ownBlock = some k) wr w2 := ((Only.refl _ _).alloc o).then_ (hap.only (S := fun k => u.ownBlock = some k) (fun g h => h)) (fun i _ h => h)
  have hs := h.size
  refine ⟨h.hn, h.b1.keep ho (fun hx => by have := hb2 _ hx; omega), h.b2.keep ho (fun hx => by have := hb2 _ hx; omega), ?_, OwnK.snoc hap, ?_, wnext_top h0.top h.hn, ?_, ?_, ?_, ?_, by have := ho.size; omega⟩
  · have := own_keep h.o1 ho (fun g hg hx => h.apart g hg hx)
    rwa [hr] at this
  · have := winv_next h0.inv n'
    rwa [hr] at this
  · have := h0.len; simp; omega
  · intro x hx
    rcases List.mem_append.1 hx with hx | hx
    · exact h0.lt x hx
    · rw [List.mem_singleton.1 hx]; exact h.hn
  · intro g hg hu
    rcases hap.lies with hl | hl
    · exact h.apart g hg (by rw [← hl]; exact hu)
    · rw [hl] at hu
      have := own_lt h.o1 g hg
      injection hu with hu
      simp at hu
      omega
  · exact h.bel.trans (ho.below (B := w.heap.size) (fun i hi => by have := hb2 i hi; omega) (by omega))
theorem u64_ex (a b : Int) : ∃ n : Nat, n < 2 ^ 64 ∧ IntKind.u64.wrap (a + IntKind.u64.wrap b) = (n : Int) := by
  rw [IntKind.wrap_u64]
  have h1 := Int.emod_nonneg (a + IntKind.u64.wrap b) (b := 18446744073709551616) (by omega)
  have h2 := Int.emod_lt_of_pos (a + IntKind.u64.wrap b) (b := 18446744073709551616) (by omega)
  exact ⟨((a + IntKind.u64.wrap b) % 18446744073709551616).toNat, by omega, by omega⟩
/-- int8 numbers as cells -/
def i8s (l : List Int) : List Value := l.map (Value.int .i8)
set_option maxRecDepth 100000 in
set_option maxHeartbeats 1000000 in
theorem frameWindow_w (first : Nat) (A : Option Addr) (zs : List Int) (cap : Nat) (hf : first < 2 ^ 64) (hz : ∀ z ∈ zs, -128 ≤ z ∧ z ≤ 127) (w : World) (hr : Rd w w.heap.size A (i8s zs)) (hm : zs.length ≤ maxLen) :
    Calls Try.prog 3 #[.int .u64 first, .slice A zs.length cap] w (Yes w) := by
  unfold maxLen at hm
  have HZ := Lib.hid hz
  have HR := Lib.hid hr
  clear hz hr
  go_enter Try.func3, Try.ntmps3
  go_wp2
  go_loopw [7, 8, 9] (fun N u I wr => WRel w zs.length N u I wr) (fun _ _ I _ => 100 - (intOf I).toNat)
  case atStart =>
    refine ⟨0, first, wz, [], .slice none 0 0, Nat.zero_le _, by omega, rfl, rfl, hf, (Blk.new _ _ _).alloc _, ?_, OwnK.nil_ _ _ _ _, OwnK.nil_ _ _ _ _, winv_zero, by decide, Nat.le_refl _, by simp, by simp [Value.ownBlock], ((Below.refl _ _).alloc (Nat.le_refl _) _).alloc (by simp) _, by simp⟩
    have e : (w.alloc (.cells (wcells wz) 26)).heap.size = w.heap.size + 1 := by simp
    rw [← e]
    exact Blk.new _ _ _
  case round =>
    rename_i wr
    obtain ⟨k, n, s, L, v, hk, hk2, rfl, rfl, h⟩ := hrel
    have HW := Lib.hid h
    clear h
    by_cases hlt : k < zs.length ∧ k < 100
    · obtain ⟨k1, k2⟩ := hlt
      have hcells := HR.out.below HW.out.bel
      have hne : i8s zs ≠ [] := fun h0 => by simp [i8s] at h0; subst h0; simp at k1
      obtain ⟨ad, rfl, hadb, hc⟩ := hcells hne
      have hzk : (i8s zs)[k]? = some (.int .i8 zs[k]) := by simp [i8s, k1]
      have hck := hc k _ hzk
      have hzb := HZ.out _ (List.getElem_mem k1)
      clear hcells hc hzk
      generalize zs[k] = z at *
      obtain ⟨n', hn', hw⟩ := u64_ex (n : Int) z
      have hlL := HW.out.len
      obtain ⟨A2, cap2, rfl, hc2, hm2, hrd2⟩ := HW.out.o2.rd
      have HR2 := Lib.hid hrd2
      clear hrd2
      have HGW := Lib.hid (wgot_is HW.out.inv n')
      have hL : L.length ≤ 1000 := by omega
      have hg2 := rgot_not_mem (l := L) (n := n')
      have HG2 := Lib.hid hg2
      clear hg2
      cases hg : rgot L n' with
      | false =>
        have HG := Lib.hid hg
        clear hg
        go_wp2_with fail
        refine (take_c w.heap.size s n' _ HW.out.b1 hn' HW.out.top HW.out.inv.lt).mono ?_
        rintro e w1 h1
        have H1 := Lib.hid h1
        obtain ⟨rfl, hB1, hO1⟩ := h1
        rw [HGW.out, HG.out]
        have hO1' := Lib.hid hO1
        clear hB1 hO1
        go_wp2_with fail
        refine (rtake_c (w.heap.size + 1) (w.heap.size + 2) v L n' _ (HW.out.b2.keep hO1'.out (by omega)) (own_keep HW.out.o1 hO1'.out (fun g hg h0 => by have := own_base HW.out.o1 g hg; omega)) (by omega)
          (by have := HW.out.size; have := hO1'.out.size; omega) hn' HW.out.lt hL).mono ?_
        rintro e w2 h2
        have H2 := Lib.hid h2
        obtain ⟨rfl, _⟩ := h2
        rw [HG.out]
        by_cases hL0 : 0 < L.length
        all_goals
          go_wp2
          refine wp_loop_rounds 1 ?_
          rw [rounds_succ]
          go_wp2
          go_roundw
          case rel =>
            go_light
            obtain ⟨v', hwt⟩ := HW.out.take hn' H1.out H2.out
            exact ⟨k + 1, n', wnext s n', L, v', by omega, by omega, by go_num, rfl, hwt.keep HW.out HG.out⟩
          case measure => simp [intOf]; omega
      | true =>
        have HG := Lib.hid hg
        clear hg
        go_wp2_with fail
        refine (take_c w.heap.size s n' _ HW.out.b1 hn' HW.out.top HW.out.inv.lt).mono ?_
        rintro e w1 h1
        have H1 := Lib.hid h1
        obtain ⟨rfl, hB1, hO1⟩ := h1
        rw [HGW.out, HG.out]
        have hO1' := Lib.hid hO1
        clear hB1 hO1
        go_wp2_with fail
        refine (rtake_c (w.heap.size + 1) (w.heap.size + 2) v L n' _ (HW.out.b2.keep hO1'.out (by omega)) (own_keep HW.out.o1 hO1'.out (fun g hg h0 => by have := own_base HW.out.o1 g hg; omega)) (by omega)
          (by have := HW.out.size; have := hO1'.out.size; omega) hn' HW.out.lt hL).mono ?_
        rintro e w2 h2
        have H2 := Lib.hid h2
        obtain ⟨rfl, _⟩ := h2
        rw [HG.out]
        obtain ⟨v', hwt⟩ := HW.out.take hn' H1.out H2.out
        have HWT := Lib.hid hwt
        obtain ⟨A3, cap3, he3, hc3, hm3, hrd3⟩ := hwt.o2.rd
        injection he3 with he4 _ he5
        subst he4
        subst he5
        have HR3 := Lib.hid hrd3
        clear hwt hrd3
        go_wp2
        go_loop [11] (fun j => ∃ i : Nat, i ≤ L.length ∧ j = .int .i64 i) (fun j => L.length - (intOf j).toNat)
        case atStart => exact ⟨0, Nat.zero_le _, rfl⟩
        case round =>
          obtain ⟨i, hi, rfl⟩ := hrel
          by_cases hil : i < L.length
          · obtain ⟨ad2, rfl, hadb2, hc2⟩ := HR3.out.word hil
            have hne2 : L.getD i 0 ≠ n' := fun h0 => HG2.out HG.out (by
              rw [← h0, List.getD_eq_getElem?_getD, List.getElem?_eq_getElem hil]; exact List.getElem_mem _)
            have t1 : (((L.getD i 0 : Nat) : Int) == (n' : Int)) = false := beq_eq_false_iff_ne.2 (by omega)
            have hxl : L.getD i 0 < 2 ^ 64 := HW.out.lt _ (by rw [List.getD_eq_getElem?_getD, List.getElem?_eq_getElem hil]; exact List.getElem_mem _)
            clear hne2
            generalize L.getD i 0 = x at *
            go_wp2
            go_round
            case rel => exact ⟨i + 1, by omega, by go_num⟩
            case measure => simp [intOf]; omega
          · obtain rfl : i = L.length := by omega
            obtain ⟨i0, hi0, hz0, hz1, hz2⟩ := info_parts u64Info
            go_wp2_with (at_builtin; refine wpList_app _ rfl (.tmp 60) (.tmp 62) _ rfl (w.heap.size + 2) 22 i0 (.int .u64 0) 1 8 Try.underlying28 hi0 hz0 hz1 hz2 rfl (by decide) _ _ _ rfl (own_alloc HWT.out.o2 _) _ _ 1 1 [.int .u64 (n' : Nat)] rfl rfl (rd_one _ _ _) (wrd_one .u64 [n']) (by omega) (by omega) (by have := HWT.out.size; simp; omega) ?_; intro u1 w3 hap)
            go_roundw
            case rel =>
              go_light
              exact ⟨k + 1, n', wnext s n', L ++ [n'], v', by omega, by omega, by go_num, rfl, HWT.out.more HW.out HG.out hap⟩
            case measure => simp [intOf]; omega
    · have hcase : ¬ k < zs.length ∨ (k < zs.length ∧ ¬ k < 100) := by omega
      clear hlt
      rcases hcase with k1 | ⟨k1, k2⟩
      all_goals
        go_wp2_with (first
          | (go_at_call 11; ((with_reducible refine (take_nil _ _).mono ?_); rintro e w' ⟨rfl, rfl⟩))
          | (go_at_call 13; ((with_reducible refine (awake21_c _).mono ?_); rintro e w2 ⟨rfl, hbel⟩)))
        go_ret
        exact ⟨rfl, HW.out.bel.trans (hbel.mono (by have := HW.out.size; omega))⟩
end Go.Proofs.Ytcmahmlcoodfoaa
