/- Contracts: Wide, Add, Less. -/
import Derived.Test.YtcmahmlcoodfoaaAwk1
import Derived.Laws.ResultCell
import Derived.Laws.Rows
namespace Go.Proofs.Ytcmahmlcoodfoaa
open Go.RowKit
set_option linter.unusedVariables false
theorem results_row_tmp {P : Program} {fn : Func} {p u : Tmp} {ty : TypeId} (h : fn.results = #[.cell p ty, .tmp u]) (tmps : Array Value) (w : World) (g : Nat) (t : TypeId) (cs : Array Value) (fr : Nat × Nat) (d : TypeDesc)
    (hp : tmps.getD p undef = .pointer (some ⟨g, 0, none⟩)) (hg : w.heap[g]? = some (.cells cs t fr))
    (hu : P.underlying ty = some d) (hd : (match d with | .struct _ | .array _ _ => true | _ => false) = true) (hi : (P.info? ty).map (·.size) = some cs.size) :
    (results fn tmps).run P w = .ok (.tuple #[.agg cs, tmps.getD u undef]) w := by
  rw [results_cell_tmp h, hp]
  simp [asAddr, run_loadVar_row w g t ty cs fr d hg hu hd hi, Result.andThen]
theorem bel3 {w : World} (a b c : Obj) : Below w.heap.size w (((w.alloc a).alloc b).alloc c) :=
  (((Below.refl _ _).alloc (Nat.le_refl _) _).alloc (le_alloc (Nat.le_refl _)) _).alloc (le_alloc (le_alloc (Nat.le_refl _))) _
theorem bel4 {w : World} (a b c d : Obj) : Below w.heap.size w ((((w.alloc a).alloc b).alloc c).alloc d) :=
  (bel3 a b c).alloc (le_alloc (le_alloc (le_alloc (Nat.le_refl _)))) _
theorem blk3 {w : World} (a b c : Obj) : (((w.alloc a).alloc b).alloc c).heap[w.heap.size + 1 + 1]? = some c := by
  have h := heap_alloc_new ((w.alloc a).alloc b) c
  have e : ((w.alloc a).alloc b).heap.size = w.heap.size + 1 + 1 := by simp
  rw [e] at h
  exact h
theorem blk4 {w : World} (a b c d : Obj) : ((((w.alloc a).alloc b).alloc c).alloc d).heap[w.heap.size + 1 + 1]? = some c :=
  (Below.heap_alloc _ _ _ (by simp)).trans (blk3 a b c)
set_option maxRecDepth 100000 in
set_option maxHeartbeats 1000000 in
theorem wide_c (n : Int) (w : World) (L : Nat) (h0 : -9223372036854775808 ≤ n) (h1 : n ≤ 9223372036854775807) (e : IntKind.u64.wrap n = (L : Int)) :
    Calls Try.prog 40 #[.int .i64 n] w fun e w' => e = .returned (.agg #[.int .i64 (n / 9223372036854775808), .int .u64 L]) ∧ Below w.heap.size w w' := by
  go_enter Try.func40, Try.ntmps40
  go_wp2
  (try simp only [Exit.inBlock, Exit.then])
  refine bodyPost_ret (results_cell_row rfl _ _ w.heap.size 67 #[.int .i64 (n / 9223372036854775808), .int .u64 L] (0, 0) _ rfl (heapNew _ _) Try.underlying67 rfl (by kernel_rfl)) rfl ?_
  exact ⟨rfl, (Below.refl _ _).alloc (Nat.le_refl _) _⟩
set_option maxRecDepth 100000 in
set_option maxHeartbeats 1000000 in
theorem add_core (ah bh ch : Int) (al bl U1 U2 L C R C2 : Nat) (w : World) (ha0 : -9223372036854775808 ≤ ah) (ha1 : ah ≤ 9223372036854775807) (hb0 : -9223372036854775808 ≤ bh) (hb1 : bh ≤ 9223372036854775807)
    (e1 : IntKind.u64.wrap ah = (U1 : Int)) (e2 : IntKind.u64.wrap bh = (U2 : Int)) (e3 : wrap64 (R : Int) = ch)
    (k1 : ∀ w, (callFunc 45 #[.int .u64 (al : Int), .int .u64 (bl : Int), .int .u64 0]).run Try.prog w = .ok (.value (.tuple #[.int .u64 (L : Int), .int .u64 (C : Int)])) w)
    (k2 : ∀ w, (callFunc 45 #[.int .u64 (U1 : Int), .int .u64 (U2 : Int), .int .u64 (C : Int)]).run Try.prog w = .ok (.value (.tuple #[.int .u64 (R : Int), .int .u64 (C2 : Int)])) w)
    (B1 B2 : Bool) (t1 : (ah / 9223372036854775808 == bh / 9223372036854775808) = B1) (t2 : (ch / 9223372036854775808 != ah / 9223372036854775808) = B2) :
    Calls Try.prog 34 #[.agg #[.int .i64 ah, .int .u64 al], .agg #[.int .i64 bh, .int .u64 bl]] w fun e w' => e = .returned (.tuple #[.agg #[.int .i64 (if B1 && B2 then 0 else ch), .int .u64 (if B1 && B2 then 0 else (L : Int))], .int .i64 (if B1 && B2 then 19 else 0)]) ∧ Below w.heap.size w w' := by
  cases B1 <;> cases B2
  all_goals
    go_enter Try.func34, Try.ntmps34
    go_wp2
    (try simp only [Exit.inBlock, Exit.then])
    first
      | (refine bodyPost_ret (results_row_tmp rfl _ _ (w.heap.size + 1 + 1) 67 #[.int .i64 ch, .int .u64 L] (0, 0) _ rfl (by first | exact blk4 _ _ _ _ | exact blk3 _ _ _) Try.underlying67 rfl (by kernel_rfl)) rfl ?_; exact ⟨rfl, by first | exact bel4 _ _ _ _ | exact bel3 _ _ _⟩)
      | (refine bodyPost_ret (results_row_tmp rfl _ _ (w.heap.size + 1 + 1) 67 #[.int .i64 0, .int .u64 0] (0, 0) _ rfl (by first | exact blk4 _ _ _ _ | exact blk3 _ _ _) Try.underlying67 rfl (by kernel_rfl)) rfl ?_; exact ⟨rfl, by first | exact bel4 _ _ _ _ | exact bel3 _ _ _⟩)
end Go.Proofs.Ytcmahmlcoodfoaa
