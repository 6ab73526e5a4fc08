/- Contract: the reference's Add. -/
import Derived.Test.YtcmahmlcoodfoaaRs1
import Derived.Test.YtcmahmlcoodfoaaTwo
import Derived.Deep.LoopGhost
import Derived.Deep.CutRange
import Derived.Deep.DeepCutAuto
import Derived.Deep.RegionWith
namespace Go.Proofs.Ytcmahmlcoodfoaa
open Go.RowKit
set_option linter.unusedVariables false
def S2 (Z : World) (ga gb : Nat) (ah bh : Int) (al bl : Nat) (wi : World) : Prop := Below Z.heap.size Z wi ∧ Two ga ah al wi ∧ Two gb bh bl wi
theorem S2.next {Z wi w' : World} {ga gb : Nat} {ah bh : Int} {al bl : Nat} (h : S2 Z ga gb ah bh al bl wi) (hb : Below wi.heap.size wi w') : S2 Z ga gb ah bh al bl w' :=
  ⟨h.1.trans (hb.mono h.1.size), h.2.1.next hb, h.2.2.next hb⟩
theorem S2.drew {Z wi : World} {ga gb : Nat} {ah bh : Int} {al bl : Nat} (h : S2 Z ga gb ah bh al bl wi) : S2 Z ga gb ah bh al bl wi.drew := ⟨belowDrewN 1 h.1, h.2⟩
/-- sums, digit by digit -/
def cr (X Y : List Nat) : Nat → Nat
  | 0 => 0
  | i + 1 => (X.getD i 0 + Y.getD i 0 + cr X Y i) / 4294967296
def zd (X Y : List Nat) (i : Nat) : Nat := (X.getD i 0 + Y.getD i 0 + cr X Y i) % 4294967296
def zds (X Y : List Nat) (k : Nat) : List Nat := (List.range k).map (zd X Y)
theorem zds_succ (X Y : List Nat) (k : Nat) : zds X Y (k + 1) = zds X Y k ++ [zd X Y k] := by simp [zds, List.range_succ]
theorem zds_len (X Y : List Nat) (k : Nat) : (zds X Y k).length = k := by simp [zds]
theorem cr_le (X Y : List Nat) (hX : ∀ i, X.getD i 0 < 4294967296) (hY : ∀ i, Y.getD i 0 < 4294967296) : ∀ k, cr X Y k ≤ 1
  | 0 => by simp [cr]
  | k + 1 => by
    have := cr_le X Y hX hY k
    have h1 := hX k
    have h2 := hY k
    unfold cr
    omega
set_option maxRecDepth 100000 in
set_option maxHeartbeats 1000000 in
theorem radd_core (ah bh : Int) (al bl : Nat) (X Y : List Nat) (w : World) (hX : ∀ i, X.getD i 0 < 4294967296) (hY : ∀ i, Y.getD i 0 < 4294967296) (lX : X.length = 4) (lY : Y.length = 4)
    (kx : ∀ w, Calls Try.prog 46 #[.agg #[.int .i64 ah, .int .u64 al]] w fun e w' => (∃ g, e = .returned (.slice (some ⟨g, 0, none⟩) 4 4) ∧ w.heap.size ≤ g ∧ Blk w' g 22 (wrd .u64 X).toArray) ∧ Below w.heap.size w w')
    (ky : ∀ w, Calls Try.prog 46 #[.agg #[.int .i64 bh, .int .u64 bl]] w fun e w' => (∃ g, e = .returned (.slice (some ⟨g, 0, none⟩) 4 4) ∧ w.heap.size ≤ g ∧ Blk w' g 22 (wrd .u64 Y).toArray) ∧ Below w.heap.size w w')
    (c z0 z1 z2 z3 : Nat) (hc : cr X Y 4 = c) (h0 : zd X Y 0 = z0) (h1 : zd X Y 1 = z1) (h2 : zd X Y 2 = z2) (h3 : zd X Y 3 = z3) (RH : Int) (RL : Nat) (hRH : wrap64 (z3 * 4294967296 + z2 : Nat) = RH) (hRL : z1 * 4294967296 + z0 = RL) (ov : Bool)
    (hov : (decide (c = 0) && !decide (2147483648 ≤ z3) || decide (c = 1) && decide (2147483648 ≤ z3)) = ov) :
    Calls Try.prog 35 #[.agg #[.int .i64 ah, .int .u64 al], .agg #[.int .i64 bh, .int .u64 bl]] w fun e w' => e = .returned (.tuple #[.agg #[.int .i64 (if ov then 0 else RH), .int .u64 (if ov then 0 else (RL : Int))], .int .i64 (if ov then 19 else 0)]) ∧ Below w.heap.size w w' := by
  have KX := Lib.hid kx
  have KY := Lib.hid ky
  have HX := Lib.hid hX
  have HY := Lib.hid hY
  have H0 := Lib.hid (And.intro hc (And.intro h0 (And.intro h1 (And.intro h2 h3))))
  have HR := Lib.hid (And.intro hRH (And.intro hRL hov))
  have hcl : c ≤ 1 := by rw [← hc]; exact cr_le X Y hX hY 4
  have b0 : z0 < 4294967296 := by rw [← h0]; exact Nat.mod_lt _ (by decide)
  have b1 : z1 < 4294967296 := by rw [← h1]; exact Nat.mod_lt _ (by decide)
  have b2 : z2 < 4294967296 := by rw [← h2]; exact Nat.mod_lt _ (by decide)
  have b3 : z3 < 4294967296 := by rw [← h3]; exact Nat.mod_lt _ (by decide)
  have HB := Lib.hid (And.intro hcl (And.intro b0 (And.intro b1 (And.intro b2 b3))))
  clear kx ky hX hY hc h0 h1 h2 h3 hRH hRL hov hcl b0 b1 b2 b3
  obtain ⟨i0, hi0, hz0, hz1, hz2⟩ := info_parts u64Inf
  go_enter Try.func35, Try.ntmps35
  go_upto_region 1 with fail
  obtain ⟨Z, hZ⟩ : ∃ Z, Z = ((w.alloc (.cells #[.int .i64 ah, .int .u64 al] 67)).alloc (.cells #[.int .i64 bh, .int .u64 bl] 67)).alloc (.cells #[.int .i64 0, .int .u64 0] 67) := ⟨_, rfl⟩
  have hs : S2 Z w.heap.size (w.heap.size + 1) ah bh al bl Z := ⟨Below.refl _ _, by rw [hZ]; exact ((Two.new _ _ _ _).alloc _).alloc _, by rw [hZ]; have h := (Two.new bh bl (w.alloc (.cells #[.int .i64 ah, .int .u64 al] 67)) 67).alloc (.cells #[.int .i64 0, .int .u64 0] 67); rw [show (w.alloc (.cells #[.int .i64 ah, .int .u64 al] 67)).heap.size = w.heap.size + 1 by simp] at h; exact h⟩
  have hzb : Blk Z (w.heap.size + 1 + 1) 67 #[.int .i64 0, .int .u64 0] := by rw [hZ]; exact blk3 _ _ _
  have hzw : Below w.heap.size w Z := by rw [hZ]; exact bel3 _ _ _
  have hzs : w.heap.size + 1 + 1 < Z.heap.size := by rw [hZ]; simp
  try simp only [← hZ]
  have HS := Lib.hid hs
  have HZB := Lib.hid hzb
  have HZW := Lib.hid hzw
  clear hs hzb hzw hZ
  go_cut [6, 7] from 13 to 16 (fun s6 s7 wx => ∃ gx gy, s6 = .slice (some ⟨gx, 0, none⟩) 4 4 ∧ s7 = .slice (some ⟨gy, 0, none⟩) 4 4 ∧ Blk wx gx 22 (wrd .u64 X).toArray ∧ Blk wx gy 22 (wrd .u64 Y).toArray ∧ Below Z.heap.size Z wx)
  case first =>
    have c0 := HS.out.2.1.1
    have c1 := HS.out.2.1.2
    have c2 := HS.out.2.2.1
    have c3 := HS.out.2.2.2
    go_region_with (first
      | (go_at_call 46; (with_reducible refine (KX.out _).mono ?_); rintro e wa ⟨⟨ga, rfl, hga, hba⟩, hbe⟩; have sa : S2 Z w.heap.size (w.heap.size + 1) ah bh al bl wa := (by first | exact HS.out.next hbe | exact HS.out.drew.next hbe | exact SB.out.next hbe); have ca0 := sa.2.1.1; have ca1 := sa.2.1.2; have ca2 := sa.2.2.1; have ca3 := sa.2.2.2; have SA := Lib.hid sa; have BA := Lib.hid hba; (try (have bb2 : Blk wa gb 22 (wrd .u64 Y).toArray := BB.out.below hbe (Blk.lt BB.out); have BB2 := Lib.hid bb2; clear bb2)); clear sa hba hbe hga)
      | (go_at_call 46; (with_reducible refine (KY.out _).mono ?_); rintro e wb ⟨⟨gb, rfl, hgb, hbb⟩, hbe⟩; have sb : S2 Z w.heap.size (w.heap.size + 1) ah bh al bl wb := (by first | exact HS.out.next hbe | exact HS.out.drew.next hbe | exact SA.out.next hbe); have cb0 := sb.2.1.1; have cb1 := sb.2.1.2; have cb2 := sb.2.2.1; have cb3 := sb.2.2.2; have SB := Lib.hid sb; have BB := Lib.hid hbb; (try (have ba2 : Blk wb ga 22 (wrd .u64 X).toArray := BA.out.below hbe (Blk.lt BA.out); have BA2 := Lib.hid ba2; clear ba2)); clear sb hbb hbe hgb))
    all_goals (go_wp2_with fail)
    all_goals go_meet
    all_goals first
      | exact ⟨_, _, rfl, rfl, BA2.out, BB.out, SB.out.1⟩
      | exact ⟨_, _, rfl, rfl, BA.out, BB2.out, SA.out.1⟩
  case rest =>
  obtain ⟨gx, gy, rfl, rfl, hbx, hby, hbz⟩ := hcut
  have HBX := Lib.hid hbx
  have HBY := Lib.hid hby
  have HBZ := Lib.hid hbz
  clear hbx hby hbz HS KX KY
  go_wp2_with fail
  go_loopw [8, 9, 10] (fun z cc i wr => ∃ k : Nat, k ≤ 4 ∧ i = .int .i64 k ∧ cc = .int .u64 (cr X Y k : Nat) ∧ OwnK wr wc.heap.size 22 .u64 z (zds X Y k) ∧ Below wc.heap.size wc wr) (fun _ _ i _ => 4 - (intOf i).toNat)
  case atStart => exact ⟨0, by omega, rfl, rfl, OwnK.nil_ _ _ _ _, Below.refl _ _⟩
  case round =>
    rename_i wr
    obtain ⟨k, hk, rfl, rfl, ho, hb⟩ := hrel
    have HO := Lib.hid ho
    have HB2 := Lib.hid hb
    clear ho hb
    by_cases hlt : k < 4
    · have c0 : wr.drew.cell? ⟨gx, k, none⟩ = some (.int .u64 (X.getD k 0 : Nat)) := ((HBX.out.below HB2.out HBX.out.lt).cell k).trans (warr_at0 _ _ _ (by omega))
      have c1 : wr.drew.cell? ⟨gy, k, none⟩ = some (.int .u64 (Y.getD k 0 : Nat)) := ((HBY.out.below HB2.out HBY.out.lt).cell k).trans (warr_at0 _ _ _ (by omega))
      have c2 : wr.cell? ⟨gx, k, none⟩ = some (.int .u64 (X.getD k 0 : Nat)) := c0
      have c3 : wr.cell? ⟨gy, k, none⟩ = some (.int .u64 (Y.getD k 0 : Nat)) := c1
      have hx := HX.out k
      have hy := HY.out k
      have hcc := cr_le X Y HX.out HY.out k
      have HS := Lib.hid (zds_succ X Y k)
      have HL := Lib.hid (zds_len X Y k)
      have HZ1 := Lib.hid (show zd X Y k = (X.getD k 0 + Y.getD k 0 + cr X Y k) % 4294967296 from rfl)
      have HC1 := Lib.hid (show cr X Y (k + 1) = (X.getD k 0 + Y.getD k 0 + cr X Y k) / 4294967296 from rfl)
      generalize X.getD k 0 = x at *
      generalize Y.getD k 0 = y at *
      generalize cr X Y k = cv at *
      go_wp2_with fail
      go_region
      go_wp2_with (at_builtin; refine wpList_app _ rfl (.tmp 32) (.tmp 35) _ rfl wc.heap.size 22 i0 (.int .u64 0) 1 8 Try.underlying28 hi0 hz0 hz1 hz2 rfl (by decide) _ _ _ rfl (own_alloc HO.out _) _ _ 1 1 [.int .u64 (((x : Int) + y + cv) % 4294967296)] rfl rfl (by exact rd_one _ _ _) (by simp [Value.oneCell']) (by rw [HL.out]; omega) (by rw [HL.out]; omega) (by exact le_alloc HB2.out.size) ?_; intro v1 w2 hap; have ho2 : OwnK w2 wc.heap.size 22 .u64 v1 (zds X Y (k + 1)) := (by rw [HS.out, HZ1.out]; exact OwnK.snoc (c := (x + y + cv) % 4294967296) (by simpa using hap)); have hb2 : Below wc.heap.size wc w2 := ((belowDrewN 1 HB2.out).alloc (by exact HB2.out.size) _).trans (hap.below (own_alloc HO.out _) (by exact le_alloc HB2.out.size)); have HO2 := Lib.hid ho2; have HB3 := Lib.hid hb2; clear hap ho2 hb2)
      go_roundw
      case rel =>
        go_light
        exact ⟨k + 1, by omega, by go_num, by rw [HC1.out]; go_num, HO2.out, HB3.out⟩
      case measure => simp [intOf]; omega
    · obtain rfl : k = 4 := by omega
      have e1 : zds X Y 4 = [z0, z1, z2, z3] := by
        obtain ⟨_, h0, h1, h2, h3⟩ := H0.out
        rw [← h0, ← h1, ← h2, ← h3]; rfl
      have e2 : cr X Y 4 = c := H0.out.1
      rw [e1] at HO
      rw [e2]
      clear e1 e2
      obtain ⟨g, cap, rest, rfl, hg, hblk, hc1, hc2, hc3⟩ := HO.out.open_ (by simp)
      have hl4 : [z0, z1, z2, z3].length = 4 := rfl
      rw [hl4] at hc1 ⊢
      clear hl4
      unfold maxLen at hc2
      have hres : Blk wr (w.heap.size + 1 + 1) 67 #[.int .i64 0, .int .u64 0] := (HZB.out.below HBZ.out hzs).below HB2.out (by have := HBZ.out.size; omega)
      have d0 : wr.cell? ⟨g, 0, none⟩ = some (.int .u64 z0) := (hblk.cell 0).trans (warr_at _ _ _ 0 (by simp))
      have d1 : wr.cell? ⟨g, 1, none⟩ = some (.int .u64 z1) := (hblk.cell 1).trans (warr_at _ _ _ 1 (by simp))
      have d2 : wr.cell? ⟨g, 2, none⟩ = some (.int .u64 z2) := (hblk.cell 2).trans (warr_at _ _ _ 2 (by simp))
      have d3 : wr.cell? ⟨g, 3, none⟩ = some (.int .u64 z3) := (hblk.cell 3).trans (warr_at _ _ _ 3 (by simp))
      have q0 : wr.drew.cell? ⟨g, 0, none⟩ = some (.int .u64 z0) := d0
      have q1 : wr.drew.cell? ⟨g, 1, none⟩ = some (.int .u64 z1) := d1
      have q2 : wr.drew.cell? ⟨g, 2, none⟩ = some (.int .u64 z2) := d2
      have q3 : wr.drew.cell? ⟨g, 3, none⟩ = some (.int .u64 z3) := d3
      have r0 := hres.cell 0
      have r1 := hres.cell 1
      have f0 := hres.free 0
      have f1 := hres.free 1
      obtain ⟨hcl, b0, b1, b2, b3⟩ := HB.out
      have HRES := Lib.hid hres
      clear hres hblk HO hc3 HB H0 HX HY
      have HBW := Lib.hid ((HZW.out.trans ((HBZ.out.trans (HB2.out.mono HBZ.out.size)).mono (by omega))))
      obtain ⟨hRH, hRL, hov⟩ := HR.out
      have HRH := Lib.hid hRH
      have HRL := Lib.hid hRL
      clear hRH hRL HR HZB HBZ HZW HB2
      have hc01 : c = 0 ∨ c = 1 := by omega
      by_cases hh : 2147483648 ≤ z3
      · have t1 : decide ((2147483648 : Int) ≤ (z3 : Int)) = true := decide_eq_true (by omega)
        simp [hh] at hov
        clear hh
        rcases hc01 with rfl | rfl
        · simp at hov; subst hov
          go_wp2_with fail
          go_region
          go_wp2_with fail
          (try simp only [Exit.inBlock, Exit.then])
          refine bodyPost_ret (results_row_tmp rfl _ _ (w.heap.size + 1 + 1) 67 #[.int .i64 (wrap64 ((z3 : Int) * 4294967296 + (z2 : Int))), .int .u64 ((z1 : Int) * 4294967296 + (z0 : Int))] (0, 0) _ rfl ((HRES.out.set_ 0 _).set_ 1 _) Try.underlying67 rfl (by kernel_rfl)) rfl ?_
          exact ⟨by rw [← HRH.out, ← HRL.out]; rfl, belowDrewN 1 ((HBW.out.setCell (by show w.heap.size ≤ w.heap.size + 1 + 1; omega) _).setCell (by show w.heap.size ≤ w.heap.size + 1 + 1; omega) _)⟩
        · simp at hov; subst hov
          go_wp2_with fail
          (try simp only [Exit.inBlock, Exit.then])
          refine bodyPost_ret (results_row_tmp rfl _ _ (w.heap.size + 1 + 1) 67 #[.int .i64 0, .int .u64 0] (0, 0) _ rfl ((HRES.out.set_ 0 _).set_ 1 _) Try.underlying67 rfl (by kernel_rfl)) rfl ?_
          exact ⟨rfl, ((HBW.out.setCell (by show w.heap.size ≤ w.heap.size + 1 + 1; omega) _).setCell (by show w.heap.size ≤ w.heap.size + 1 + 1; omega) _)⟩
      · have t1 : decide ((2147483648 : Int) ≤ (z3 : Int)) = false := decide_eq_false (by omega)
        simp [hh] at hov
        clear hh
        rcases hc01 with rfl | rfl
        · simp at hov; subst hov
          go_wp2_with fail
          (try simp only [Exit.inBlock, Exit.then])
          refine bodyPost_ret (results_row_tmp rfl _ _ (w.heap.size + 1 + 1) 67 #[.int .i64 0, .int .u64 0] (0, 0) _ rfl ((HRES.out.set_ 0 _).set_ 1 _) Try.underlying67 rfl (by kernel_rfl)) rfl ?_
          exact ⟨rfl, ((HBW.out.setCell (by show w.heap.size ≤ w.heap.size + 1 + 1; omega) _).setCell (by show w.heap.size ≤ w.heap.size + 1 + 1; omega) _)⟩
        · simp at hov; subst hov
          go_wp2_with fail
          go_region
          go_wp2_with fail
          (try simp only [Exit.inBlock, Exit.then])
          refine bodyPost_ret (results_row_tmp rfl _ _ (w.heap.size + 1 + 1) 67 #[.int .i64 (wrap64 ((z3 : Int) * 4294967296 + (z2 : Int))), .int .u64 ((z1 : Int) * 4294967296 + (z0 : Int))] (0, 0) _ rfl ((HRES.out.set_ 0 _).set_ 1 _) Try.underlying67 rfl (by kernel_rfl)) rfl ?_
          exact ⟨by rw [← HRH.out, ← HRL.out]; rfl, belowDrewN 1 ((HBW.out.setCell (by show w.heap.size ≤ w.heap.size + 1 + 1; omega) _).setCell (by show w.heap.size ≤ w.heap.size + 1 + 1; omega) _)⟩
end Go.Proofs.Ytcmahmlcoodfoaa
