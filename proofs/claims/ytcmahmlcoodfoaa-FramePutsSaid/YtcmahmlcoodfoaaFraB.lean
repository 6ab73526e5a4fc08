/- Contracts: slices.Grow of nothing, slices.Concat of three. -/
import Derived.Test.YtcmahmlcoodfoaaFra3
import Derived.Lib.AppendZerosOnto
namespace Go.Proofs.Ytcmahmlcoodfoaa
open Go.RowKit Go.Great
set_option linter.unusedVariables false
theorem zc_size (k : Nat) : (Builtin.zeroCells #[Value.int .u8 0] k).size = k := by simp [Builtin.zeroCells]
set_option maxRecDepth 100000 in
set_option maxHeartbeats 1000000 in
theorem grow_c (n : Nat) (w : World) (h0 : 0 < n) (h1 : n ≤ 1000000) : Calls Try.prog 53 #[.slice none 0 0, .int .i64 n] w (Gives [] w) := by
  obtain ⟨i0, hi, hz0, hz1, hz2⟩ := info_parts byteInfo
  have hrz : ∀ ty, (Builtin.append_ #[35, 3] ty #[.slice none 0 0, .int .i64 (n : Nat)]).run Try.prog w =
      .ok (.slice (some ⟨w.heap.size, 0, none⟩) n (grownCap w n 0 5)) (w.drew.alloc (.cells (#[] ++ Builtin.zeroCells #[Value.int .u8 0] n ++ Builtin.zeroCells #[Value.int .u8 0] (grownCap w n 0 5 - n)) 5)) := fun ty => by
    have h := Lib.run_append_grow_zeros (P := Try.prog) w 35 3 ty 5 i0 (.int .u8 0) .i64 .i64 Try.underlying35 Try.underlying3 hi hz0 none 0 0 [] (run_firstCells_none w.drew i0.size 0 0 0) n h0 (by rw [hz1]; decide) (by omega) (by omega) (by rw [hz2]; omega) (by rw [Nat.zero_add]; exact growslice_fits h0 (by rw [hz2]; omega))
    rw [Nat.zero_add] at h
    exact h
  have hGn : n ≤ grownCap w n 0 5 := grownCap_ge w _ _ _
  have hGm : grownCap w n 0 5 ≤ maxLen := grownCap_le_maxLen w n 0 5 (by unfold maxLen; omega)
  generalize grownCap w n 0 5 = G at *
  have hG63 : G ≤ 9223372036854775807 := by unfold maxLen at hGm; omega
  have HM := Lib.hid hGm
  have HN := Lib.hid hGn
  clear hGm
  go_enter Try.func53, Try.ntmps53
  go_wp2_with (at_builtin; refine Lib.wpList_append_run _ rfl _ _ _ _ rfl _ _ rfl rfl _ _ (hrz _) ?_)
  all_goals
    go_ret
    refine ⟨_, rfl, ⟨rfl, .inr ⟨w.heap.size, G, _, rfl, Nat.le_refl _, heap_alloc_new w.drew _, Nat.zero_le _, HM.out, ?_, rfl⟩⟩, ((Below.refl _ _).drew).alloc (Nat.le_refl _) _⟩
    have := HN.out
    simp [zc_size]; omega
/-- what lies in front of the k-th of three -/
def cat3 (a b c : List Nat) : Nat → List Nat
  | 0 => []
  | 1 => a
  | 2 => a ++ b
  | _ => a ++ b ++ c
set_option maxRecDepth 100000 in
set_option maxHeartbeats 2000000 in
theorem concat_c (g : Nat) (A1 A2 A3 : Option Addr) (c1 c2 c3 : Nat) (a b c : List Nat) (w : World) (hb : Blk w g 35 #[.slice A1 a.length c1, .slice A2 b.length c2, .slice A3 c.length c3])
    (h1 : Rd w w.heap.size A1 (byt a)) (h2 : Rd w w.heap.size A2 (byt b)) (h3 : Rd w w.heap.size A3 (byt c)) (l1 : a.length ≤ 100000) (l2 : b.length ≤ 100000) (l3 : c.length ≤ 100000) (h0 : 0 < a.length) :
    Calls Try.prog 42 #[.slice (some ⟨g, 0, none⟩) 3 3] w (Gives (a ++ b ++ c) w) := by
  obtain ⟨i0, hi, hz0, hz1, hz2⟩ := info_parts byteInfo
  have d0 : w.cell? ⟨g, 0, none⟩ = some (.slice A1 a.length c1) := hb.cell 0
  have d1 : w.cell? ⟨g, 1, none⟩ = some (.slice A2 b.length c2) := hb.cell 1
  have d2 : w.cell? ⟨g, 2, none⟩ = some (.slice A3 c.length c3) := hb.cell 2
  have HB := Lib.hid hb
  have H1 := Lib.hid h1
  have H2 := Lib.hid h2
  have H3 := Lib.hid h3
  have HGR := Lib.hid (fun W => grow_c (a.length + b.length + c.length) W (by omega) (by omega))
  have HL := Lib.hid (And.intro l1 (And.intro l2 l3))
  clear hb h1 h2 h3
  go_enter Try.func42, Try.ntmps42
  go_wp2_with fail
  go_loopw [3, 11] (fun s i wr => ∃ k : Nat, k ≤ 3 ∧ i = .int .i64 k ∧ s = .int .i64 ((cat3 a b c k).length : Nat) ∧ w = wr) (fun _ i _ => 3 - (intOf i).toNat)
  case atStart => exact ⟨0, by omega, rfl, rfl, rfl⟩
  case round =>
    obtain ⟨k, hk, rfl, rfl, rfl⟩ := hrel
    have hk3 : k = 0 ∨ k = 1 ∨ k = 2 ∨ k = 3 := by omega
    rcases hk3 with rfl | rfl | rfl | rfl
    · rw [show ((cat3 a b c 0).length : Int) = 0 from rfl]
      go_wp2_with fail
      go_roundw
      case rel => exact ⟨1, by omega, rfl, by simp [cat3], by first | rfl | trivial⟩
      case measure => simp [intOf]
    · rw [show ((cat3 a b c 1).length : Int) = (a.length : Int) from rfl]
      go_wp2_with fail
      go_roundw
      case rel => exact ⟨2, by omega, rfl, by simp [cat3], by first | rfl | trivial⟩
      case measure => simp [intOf]
    · rw [show ((cat3 a b c 2).length : Int) = (a.length : Int) + (b.length : Int) by simp [cat3]]
      go_wp2_with fail
      go_roundw
      case rel => exact ⟨3, by omega, rfl, by simp [cat3]; omega, by first | rfl | trivial⟩
      case measure => simp [intOf]
    · rw [show ((cat3 a b c 3).length : Int) = ((a.length + b.length + c.length : Nat) : Int) by simp [cat3]; omega]
      go_wp2_with (go_at_call 53; ((refine (HGR.out _).mono ?_); rintro e w1 ⟨v1, rfl, ho, hb⟩; have HO1 := Lib.hid ho; have HB1 := Lib.hid hb; clear ho hb))
      go_loopw [6, 27] (fun v i wr => ∃ k : Nat, k ≤ 3 ∧ i = .int .i64 k ∧ OwnB wr w.heap.size v (cat3 a b c k) ∧ Below w.heap.size w wr) (fun _ i _ => 3 - (intOf i).toNat)
      case atStart => exact ⟨0, by omega, rfl, HO1.out, HB1.out⟩
      case round =>
        rename World => wr
        rename_i v hm
        obtain ⟨k, hk, rfl, ho, hbr⟩ := hrel
        have HOK := Lib.hid ho
        have HBK := Lib.hid hbr
        have e0 := (HB.out.below hbr HB.out.lt).cell 0
        have e1 := (HB.out.below hbr HB.out.lt).cell 1
        have e2 := (HB.out.below hbr HB.out.lt).cell 2
        simp only [List.getElem?_toArray, List.getElem?_cons_zero, List.getElem?_cons_succ] at e0 e1 e2
        clear d0 d1 d2 ho hbr
        have hk3 : k = 0 ∨ k = 1 ∨ k = 2 ∨ k = 3 := by omega
        rcases hk3 with rfl | rfl | rfl | rfl
        · go_wp2_with (at_builtin; refine wpList_app _ rfl (.tmp 31) (.tmp 32) _ rfl w.heap.size 5 i0 (.int .u8 0) 1 1 Try.underlying35 hi hz0 hz1 hz2 rfl (by decide) _ (([] : List Nat)).length (byt (([] : List Nat))) rfl (by exact HOK.out) w.heap.size A1 a.length c1 (byt a) rfl (by simp [byt_len]) (H1.out.below HBK.out) (byt_one _) (by have := HL.out; simp; omega) (by have := HL.out; simp; omega) (by exact HBK.out.size) ?_; intro v5 w5 hap; have HOA := Lib.hid (show OwnB w5 w.heap.size v5 (([] : List Nat) ++ a) from OwnB.app hap); have HBA := Lib.hid (show Below w.heap.size w w5 from HBK.out.trans (hap.below HOK.out HBK.out.size)); clear hap)
          go_roundw
          case rel => exact ⟨1, by omega, rfl, HOA.out, HBA.out⟩
          case measure => simp [intOf]
        · go_wp2_with (at_builtin; refine wpList_app _ rfl (.tmp 31) (.tmp 32) _ rfl w.heap.size 5 i0 (.int .u8 0) 1 1 Try.underlying35 hi hz0 hz1 hz2 rfl (by decide) _ (a).length (byt (a)) rfl (by exact HOK.out) w.heap.size A2 b.length c2 (byt b) rfl (by simp [byt_len]) (H2.out.below HBK.out) (byt_one _) (by have := HL.out; simp; omega) (by have := HL.out; simp; omega) (by exact HBK.out.size) ?_; intro v5 w5 hap; have HOA := Lib.hid (show OwnB w5 w.heap.size v5 (a ++ b) from OwnB.app hap); have HBA := Lib.hid (show Below w.heap.size w w5 from HBK.out.trans (hap.below HOK.out HBK.out.size)); clear hap)
          go_roundw
          case rel => exact ⟨2, by omega, rfl, HOA.out, HBA.out⟩
          case measure => simp [intOf]
        · go_wp2_with (at_builtin; refine wpList_app _ rfl (.tmp 31) (.tmp 32) _ rfl w.heap.size 5 i0 (.int .u8 0) 1 1 Try.underlying35 hi hz0 hz1 hz2 rfl (by decide) _ (a ++ b).length (byt (a ++ b)) rfl (by exact HOK.out) w.heap.size A3 c.length c3 (byt c) rfl (by simp [byt_len]) (H3.out.below HBK.out) (byt_one _) (by have := HL.out; simp; omega) (by have := HL.out; simp; omega) (by exact HBK.out.size) ?_; intro v5 w5 hap; have HOA := Lib.hid (show OwnB w5 w.heap.size v5 (a ++ b ++ c) from OwnB.app hap); have HBA := Lib.hid (show Below w.heap.size w w5 from HBK.out.trans (hap.below HOK.out HBK.out.size)); clear hap)
          go_roundw
          case rel => exact ⟨3, by omega, rfl, HOA.out, HBA.out⟩
          case measure => simp [intOf]
        · go_wp2_with fail
          go_ret
          exact ⟨_, rfl, HOK.out, HBK.out⟩
end Go.Proofs.Ytcmahmlcoodfoaa
