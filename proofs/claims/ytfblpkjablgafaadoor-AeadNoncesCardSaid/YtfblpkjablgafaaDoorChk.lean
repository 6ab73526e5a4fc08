/- Contracts: slices.Chunk of bytes, sixteen at once. -/
import Derived.Test.YtfblpkjablgafaaDoorBas2
import Derived.RangeFuncNested
import Derived.RangeFuncBound
import Derived.RangeFuncCalls
import Derived.RangeFuncLeaves
import Derived.Shelf.Abstract
import Derived.Shelf.RegionOpen
import Derived.WalkKit
import Derived.OwnWalkIn
import Derived.TacticsInMore
import Derived.LoopNIn
import Derived.LoopIn
import Derived.Sort.QuietIn
namespace Go.Proofs.YtfblpkjablgafaaDoor
open Go.RowKit
set_option linter.unusedVariables false
set_option linter.unusedSimpArgs false
attribute [local go_sem] Oper.semAt_some
/-- the numbers of the blocks of sixteen of so many bytes -/
abbrev Blk16 (L : Nat) := { i : Nat // 16 * i < L }
def chunkV (g L : Nat) (x : Blk16 L) : Value := .slice (some ⟨g, 16 * x.1, none⟩) (min 16 (L - 16 * x.1)) (min 16 (L - 16 * x.1))
def upto16 (L : Nat) : Nat → List (Blk16 L)
  | 0 => []
  | k + 1 => if h : 16 * k < L then upto16 L k ++ [⟨k, h⟩] else upto16 L k
theorem upto16_len (L : Nat) : ∀ k, 16 * k < L + 16 → (upto16 L k).length = k
  | 0, _ => rfl
  | k + 1, h => by
    rw [upto16, dif_pos (show 16 * k < L by omega), List.length_append, upto16_len L k (by omega)]
    rfl
set_option maxRecDepth 100000 in
set_option maxHeartbeats 1000000 in
theorem chunk_c (A : Option Addr) (L ca : Nat) (w : World) : Calls Tryd.prog 39 #[.slice A L ca, .int .i64 16] w fun e w' => e = .returned (.func (.func 51) #[] #[.pointer (some ⟨w.heap.size, 0, none⟩), .pointer (some ⟨w.heap.size + 1, 0, none⟩)]) ∧ w' = (w.alloc (.cells #[.slice A L ca] 26)).alloc (.cells #[.int .i64 16] 3) := by
  go_enter Tryd.func39, Tryd.ntmps39
  go_wp2_with fail
  go_ret
  exact ⟨rfl, rfl⟩
theorem grown_drewN {W : World} (q : Nat) : W.grownBy (W.drewN q) none := ⟨rfl, rfl, rfl, Nat.le_refl _, fun _ _ _ => rfl⟩
set_option maxRecDepth 100000 in
set_option maxHeartbeats 2000000 in
theorem chunk_in (n l Bs Bn g L ca : Nat) (Kp : World → World → Prop) (hKs : ∀ A B v, Kp A B → A.cell? ⟨Bs, 0, none⟩ = some v → B.cell? ⟨Bs, 0, none⟩ = some v) (hKn : ∀ A B v, Kp A B → A.cell? ⟨Bn, 0, none⟩ = some v → B.cell? ⟨Bn, 0, none⟩ = some v) (hn : 1 ≤ n) (hL : L ≤ 100000) (hcap : L ≤ ca) (hca : ca ≤ 9223372036854775807) (J Jx : List (Blk16 L) → World → Prop)
    (hJ : ∀ s A (q : Nat), J s A → J s (A.drewN q))
    (hY : ∀ pre x W, J pre W → pre.length < L + 1 → YieldAt Fence.wide (n - 1) Tryd.prog l #[chunkV g L x] W fun e W' =>
      (e = .returned (.bool true) ∧ J (pre ++ [x]) W' ∧ Kp W W') ∨ (e = .returned (.bool false) ∧ Jx (pre ++ [x]) W'))
    (W : World) (hs : W.cell? ⟨Bs, 0, none⟩ = some (.slice (some ⟨g, 0, none⟩) L ca)) (hbn : W.cell? ⟨Bn, 0, none⟩ = some (.int .i64 16)) (h0 : J [] W) :
    CallsIn Fence.wide n Tryd.prog 51 #[.func (.yield l) #[] #[], .pointer (some ⟨Bs, 0, none⟩), .pointer (some ⟨Bn, 0, none⟩)] W fun e W' => (∃ v, e = .returned v) ∧
      ((∃ ys, ys = upto16 L ((L + 15) / 16) ∧ J ys W') ∨ (∃ pre, True ∧ Jx pre W')) := by
  refine callsIn_of_wp Tryd.func51 rfl trivial ?_ rfl
  simp only [Tryd.ntmps51, List.size_toArray, List.length_cons, List.length_nil, Nat.reduceAdd, Nat.reduceSub, Array.replicate_succ, Array.replicate_zero, List.push_toArray, List.append_toArray, List.nil_append, List.cons_append]
  have HJ := Lib.hid hJ
  have HY := Lib.hid hY
  have HS := Lib.hid hs
  have HN := Lib.hid hbn
  clear hJ hY hs hbn
  gi_wp2
  gi_loopw [4] (fun i wr => ∃ k : Nat, 16 * k < L + 16 ∧ i = .int .i64 ((16 * k : Nat) : Int) ∧ J (upto16 L k) wr ∧ wr.cell? ⟨Bs, 0, none⟩ = some (.slice (some ⟨g, 0, none⟩) L ca) ∧ wr.cell? ⟨Bn, 0, none⟩ = some (.int .i64 16))
    (fun i _ => L + 16 - (intOf i).toNat)
  case atStart => exact ⟨0, by omega, rfl, h0, HS.out, HN.out⟩
  case round =>
    rename World => wr
    obtain ⟨k, hk, rfl, hJs, c1, c2⟩ := hrel
    have HJS := Lib.hid hJs
    clear hJs
    by_cases hk2 : 16 * k < L
    · obtain ⟨m, hm⟩ : ∃ m, m = min 16 (L - 16 * k) := ⟨_, rfl⟩
      have hyx := fun q => HY.out (upto16 L k) ⟨k, hk2⟩ (wr.drewN q) (HJ.out _ _ q HJS.out) (by rw [upto16_len L k hk]; omega)
      have hcv : chunkV g L ⟨k, hk2⟩ = .slice (some ⟨g, 16 * k, none⟩) m m := by rw [hm]; rfl
      rw [hcv] at hyx
      have hup : upto16 L (k + 1) = upto16 L k ++ [⟨k, hk2⟩] := by rw [upto16, dif_pos hk2]
      rw [← hup] at hyx
      have HYX := Lib.hid hyx
      have HM := Lib.hid hm
      have hm16 : m ≤ 16 := by rw [hm]; exact Nat.min_le_left _ _
      have hmL : m ≤ L - 16 * k := by rw [hm]; exact Nat.min_le_right _ _
      clear hyx hcv hup hm
      obtain ⟨i, hi⟩ : ∃ i, i = 16 * k := ⟨_, rfl⟩
      have p1 : (i : Int) < (L : Int) := by omega
      have p2 : (i : Int) ≤ (L : Int) := by omega
      have p3 : (i : Int) ≤ (ca : Int) := by omega
      have p4 : (i : Int) + (m : Int) ≤ (ca : Int) := by omega
      have hmi : m = min 16 (L - i) := by rw [hi]; exact HM.out
      rw [← hi] at HYX ⊢
      have HI := Lib.hid hi
      clear hi hmL hm16 HM
      by_cases h16 : L - i < 16
      · obtain rfl : m = L - i := by omega
        clear hmi
        have t1 : ((L - i : Nat) : Int) < 16 := by omega
        gi_wp2
        gi_quiet (fail)
        obtain ⟨fn, tmps, assign, body, hy, hR⟩ := HYX.out nq
        clear HYX
        gi_wp2
        refine hR.mono ?_
        rintro e W3 (⟨rfl, hJ3, hk3⟩ | ⟨rfl, hJx3⟩)
        · have HJ3 := Lib.hid hJ3
          clear hJ3
          have c3 := hKs _ _ _ hk3 ((World.cell?_drewN ..).trans c1)
          have c4 := hKn _ _ _ hk3 ((World.cell?_drewN ..).trans c2)
          have C3 := Lib.hid c3
          have C4 := Lib.hid c4
          clear hk3
          gi_wp2
          go_roundw
          case rel => exact ⟨k + 1, by have := HI.out; omega, by have := HI.out; congr 1; omega, HJ3.out, C3.out, C4.out⟩
          case measure => have := HI.out; simp [intOf]; omega
        · have HX := Lib.hid hJx3
          clear hJx3
          gi_wp2
          refine bodyPost_ret (results_none rfl _ _ _) rfl ?_
          exact ⟨⟨_, rfl⟩, .inr ⟨_, trivial, HX.out⟩⟩
      · obtain rfl : m = 16 := by omega
        clear hmi
        have t1 : ¬ ((L - i : Nat) : Int) < 16 := by omega
        gi_wp2
        gi_quiet (fail)
        obtain ⟨fn, tmps, assign, body, hy, hR⟩ := HYX.out nq
        clear HYX
        gi_wp2
        refine hR.mono ?_
        rintro e W3 (⟨rfl, hJ3, hk3⟩ | ⟨rfl, hJx3⟩)
        · have HJ3 := Lib.hid hJ3
          clear hJ3
          have c3 := hKs _ _ _ hk3 ((World.cell?_drewN ..).trans c1)
          have c4 := hKn _ _ _ hk3 ((World.cell?_drewN ..).trans c2)
          have C3 := Lib.hid c3
          have C4 := Lib.hid c4
          clear hk3
          gi_wp2
          go_roundw
          case rel => exact ⟨k + 1, by have := HI.out; omega, by have := HI.out; congr 1; omega, HJ3.out, C3.out, C4.out⟩
          case measure => have := HI.out; simp [intOf]; omega
        · have HX := Lib.hid hJx3
          clear hJx3
          gi_wp2
          refine bodyPost_ret (results_none rfl _ _ _) rfl ?_
          exact ⟨⟨_, rfl⟩, .inr ⟨_, trivial, HX.out⟩⟩
    · have e : (L + 15) / 16 = k := by omega
      have HE := Lib.hid e
      clear e
      have p1 : ¬ ((16 * k : Nat) : Int) < (L : Int) := by omega
      obtain ⟨i, hi⟩ : ∃ i, i = 16 * k := ⟨_, rfl⟩
      rw [← hi] at p1 ⊢
      clear hi
      gi_wp2
      go_end0
      exact ⟨⟨_, rfl⟩, .inl (by rw [HE.out]; exact HJS.out)⟩
set_option maxRecDepth 100000 in
set_option maxHeartbeats 1000000 in
/-- at the nil slice: no round -/
theorem chunk0_in (n l Bs Bn : Nat) (A : Option Addr) (ca : Nat) (J : List (Blk16 0) → World → Prop) (W : World) (hs : W.cell? ⟨Bs, 0, none⟩ = some (.slice A 0 ca)) (h0 : J [] W) :
    CallsIn Fence.wide n Tryd.prog 51 #[.func (.yield l) #[] #[], .pointer (some ⟨Bs, 0, none⟩), .pointer (some ⟨Bn, 0, none⟩)] W fun e W' => (∃ v, e = .returned v) ∧ J [] W' := by
  refine callsIn_of_wp Tryd.func51 rfl trivial ?_ rfl
  simp only [Tryd.ntmps51, List.size_toArray, List.length_cons, List.length_nil, Nat.reduceAdd, Nat.reduceSub, Array.replicate_succ, Array.replicate_zero, List.push_toArray, List.append_toArray, List.nil_append, List.cons_append]
  have HJ := Lib.hid h0
  clear h0
  gi_wp2
  gi_loopw [4] (fun i wr => i = .int .i64 0 ∧ W = wr) (fun _ _ => 0)
  case atStart => exact ⟨rfl, rfl⟩
  case round =>
    obtain ⟨rfl, rfl⟩ := hrel
    gi_wp2
    go_end0
    exact ⟨⟨_, rfl⟩, HJ.out⟩
/-- slices.Chunk's iterator: all blocks, in their order -/
theorem chunk_stops (n Bs Bn g : Nat) (A : Option Addr) (L ca : Nat) (Kp : World → World → Prop) (hKs : ∀ A B v, Kp A B → A.cell? ⟨Bs, 0, none⟩ = some v → B.cell? ⟨Bs, 0, none⟩ = some v) (hKn : ∀ A B v, Kp A B → A.cell? ⟨Bn, 0, none⟩ = some v → B.cell? ⟨Bn, 0, none⟩ = some v) (hA : 0 < L → A = some ⟨g, 0, none⟩) (hn : 1 ≤ n) (hL : L ≤ 100000) (hcap : L ≤ ca) (hca : ca ≤ 9223372036854775807) (w : World) (hlt : Bs < w.heap.size) (hlt2 : Bn < w.heap.size)
    (hs : w.cell? ⟨Bs, 0, none⟩ = some (.slice A L ca)) (hbn : w.cell? ⟨Bn, 0, none⟩ = some (.int .i64 16)) :
    SeqStopsK Fence.wide n Tryd.prog 51 #[.pointer (some ⟨Bs, 0, none⟩), .pointer (some ⟨Bn, 0, none⟩)] (fun x : Blk16 L => #[chunkV g L x]) Kp (fun ys => ys = upto16 L ((L + 15) / 16)) (fun _ => True) (L + 1) w := fun l J Jx W hW hJ hJx hY h0 => by
  have hs' := (hW.cell (p := ⟨Bs, 0, none⟩) hlt).trans hs
  have hb' := (hW.cell (p := ⟨Bn, 0, none⟩) hlt2).trans hbn
  rcases Nat.eq_zero_or_pos L with rfl | h
  · exact (chunk0_in n l Bs Bn A ca J W hs' h0).mono fun e W' ⟨he, hj⟩ => ⟨he, .inl ⟨_, rfl, hj⟩⟩
  · obtain rfl := hA h
    exact chunk_in n l Bs Bn g L ca Kp hKs hKn hn hL hcap hca J Jx (fun s A q a => hJ s A _ none a (grown_drewN q) (fun r e => by cases e)) hY W hs' hb' h0
end Go.Proofs.YtfblpkjablgafaaDoor
