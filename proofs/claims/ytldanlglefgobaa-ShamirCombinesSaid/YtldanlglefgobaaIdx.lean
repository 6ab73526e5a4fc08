/- An element of a key that is a value. -/
import Derived.Test.YtldanlglefgobaaPla2
namespace Go.Proofs.Ytldanlglefgobaa
open Go.RowKit
set_option linter.unusedVariables false
theorem u8_info : ∃ i, Try.prog.info? 5 = some i ∧ i.size = 1 := by
  obtain ⟨i0, hi0, hz0, hz1, hz2⟩ := info_parts byteInfo
  exact ⟨i0, hi0, hz1⟩
theorem run_index_key (l : List Nat) (m : Nat) (hl : l.length = 32) (hm : m < 32) (w : World) : (Instr.index 43 (.agg (vb l)) (.int .i64 (m : Int))).run Try.prog w = .ok (.int .u8 (l.getD m 0 : Nat)) w := by
  obtain ⟨i, hi, hs⟩ := u8_info
  have hu := Try.underlying43
  have hu8 := Try.underlying5
  have hv := vb_at l m (by omega)
  have hagg : (isAgg 5).run Try.prog w = .ok false w := by
    unfold isAgg
    rw [Sem.run_bind, run_underlying hu8 w]
    rfl
  simp [Instr.index, asIntOf, run_underlying hu, sizeOf, typeInfo, hi, hs, part, Sem.run_bind, hagg, hv, hm]
end Go.Proofs.Ytldanlglefgobaa
