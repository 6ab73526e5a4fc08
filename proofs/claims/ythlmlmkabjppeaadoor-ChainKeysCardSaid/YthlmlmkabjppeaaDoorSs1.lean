/- ShaSums: contracts that it needs. -/
import Derived.Test.YthlmlmkabjppeaaDoorHx4
import Derived.Test.YthlmlmkabjppeaaDoorRsm3
namespace Go.Proofs.YthlmlmkabjppeaaDoor
open Go.RowKit
set_option linter.unusedVariables false
set_option linter.unusedSimpArgs false
theorem pick_c (x : Int) (n : Nat) (w : World) (h1 : 1 ≤ n) (h8 : n ≤ 100000) (hx0 : -9223372036854775808 ≤ x) (hx1 : x ≤ 9223372036854775807) :
    Calls Tryd.prog 19 #[.int .i64 x, .int .i64 n] w fun e w' => (∃ K : Nat, K < n ∧ e = .returned (.int .i64 K)) ∧ w = w' := by
  have t1 : decide ((n : Int) < 1) = false := decide_eq_false (by omega)
  have hn0 : ((n : Int) == 0) = false := beq_eq_false_iff_ne.2 (by omega)
  have hm1 : x.tmod (n : Int) < (n : Int) := Int.tmod_lt_of_pos x (by omega)
  have hm2 : -(n : Int) < x.tmod (n : Int) := by
    have h := Int.natAbs_tmod x (n : Int)
    have h2 : x.natAbs % n < n := Nat.mod_lt _ (by omega)
    have h3 : (n : Int).natAbs = n := rfl
    rw [h3] at h
    omega
  generalize hq : x.tmod (n : Int) = q at *
  have HQ := Lib.hid hq
  by_cases hneg : q < 0
  · have t2 : decide (q < 0) = true := decide_eq_true hneg
    go_enter Tryd.func19, Tryd.ntmps19
    go_wp2
    go_ret
    exact ⟨⟨(q + n).toNat, by omega, by rw [show (((q + n).toNat : Nat) : Int) = q + n by omega]; rfl⟩, rfl⟩
  · have t2 : decide (q < 0) = false := decide_eq_false hneg
    go_enter Tryd.func19, Tryd.ntmps19
    go_wp2
    go_ret
    exact ⟨⟨q.toNat, by omega, by rw [show ((q.toNat : Nat) : Int) = q by omega]; rfl⟩, rfl⟩
set_option maxRecDepth 100000 in
theorem short_c (s : List Nat) (w : World) (hs : s.length = 32) (hl : ∀ c ∈ s, c < 256) :
    Calls Tryd.prog 22 #[.agg (vb s)] w fun e w' => e = .returned (.int .u64 (number (s.take 8) : Nat)) ∧ Below w.heap.size w w' := by
  have hg : ∀ W, Blk W w.heap.size 26 (vb s) → Calls Tryd.prog 49 #[.slice (some ⟨w.heap.size, 0, none⟩) 32 32, .int .i64 8] W fun e w' => e = .returned (.tuple #[.int .u64 (number (s.take 8) : Nat), .int .i64 0]) ∧ W = w' := fun W hb => by
    have h1 := get_c (w.heap.size + 1) (some ⟨w.heap.size, 0, none⟩) 32 s 8 W (rd_blk hb _ 32 (by show byt s = ((byt s).toArray.toList).take 32; rw [List.toList_toArray, List.take_of_length_le (by rw [byt_len, hs]; decide)])) hl (by omega) (by decide) (by decide)
    have e1 : getErr s.length 8 = 0 := by rw [hs]; rfl
    have e2 : getNum s 8 = number (s.take 8) := by unfold getNum; rw [e1]; rfl
    rw [e1, e2, hs] at h1
    exact h1
  have HG := Lib.hid hg
  have hsz : (vb s).size = 32 := by rw [vb_size, hs]
  go_enter Tryd.func22, Tryd.ntmps22
  clear hg
  go_wp2_with (go_at_call 49; (refine (HG.out _ (by exact Blk.new _ _ _)).mono ?_); rintro e w1 ⟨rfl, rfl⟩)
  go_ret
  exact ⟨rfl, (Below.refl _ _).alloc (Nat.le_refl _) _⟩
theorem eq_sum (l m : List Nat) (hl : l.length = 32) (hm : m.length = 32) (hs : ∀ c ∈ l, c < 256) (hs2 : ∀ c ∈ m, c < 256) (w : World) :
    (Op.equalIn 10000 26 (.agg (vb l)) (.agg (vb m))).run Tryd.prog w = .ok (l == m) w :=
  run_equalIn_barr Tryd.underlying26 Tryd.underlying5 (by kernel_rfl) (by kernel_rfl) l m hl hm hs hs2 w
end Go.Proofs.YthlmlmkabjppeaaDoor
