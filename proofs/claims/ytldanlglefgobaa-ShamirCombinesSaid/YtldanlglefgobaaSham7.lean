/- ShamirHides: the plain side; laws for regions that draw their order. -/
import Derived.Test.YtldanlglefgobaaSham6
import Derived.StillTailTactics
namespace Go.Proofs.Ytldanlglefgobaa
open Go.RowKit
set_option linter.unusedVariables false
/-- the first k values, the rest still 0 -/
def fTo (f : Nat → Nat) (k : Nat) : List Nat := (List.range 32).map fun i => if i < k then f i else 0
theorem fTo_zero (f : Nat → Nat) : fTo f 0 = List.replicate 32 0 := by
  rw [List.eq_replicate_iff]; simp [fTo]
theorem fTo_len (f : Nat → Nat) (k : Nat) : (fTo f k).length = 32 := by simp [fTo]
theorem fTo_at (f : Nat → Nat) (k i : Nat) (h : i < 32) : (fTo f k).getD i 0 = if i < k then f i else 0 := by
  simp [fTo, List.getD_eq_getElem?_getD, h]
theorem fTo_lt {f : Nat → Nat} (hf : ∀ i, f i < 256) (k : Nat) : ∀ c ∈ fTo f k, c < 256 := by
  intro c hc
  obtain ⟨i, _, rfl⟩ := List.mem_map.1 hc
  split
  · exact hf i
  · omega
theorem fTo_set (f : Nat → Nat) (k : Nat) : (fTo f k).set k (f k) = fTo f (k + 1) := by
  apply List.ext_getElem
  · simp [fTo]
  · intro i h1 h2
    simp only [fTo, List.getElem_set, List.getElem_map, List.getElem_range]
    by_cases h : k = i
    · subst h; simp
    · rw [if_neg h]
      by_cases h3 : i < k
      · rw [if_pos h3, if_pos (by omega)]
      · rw [if_neg h3, if_neg (by omega)]
/-- the draws that hide another secret -/
def oth (a b d : List Nat) (v i : Nat) : Nat := gm (a.getD i 0 ^^^ b.getD i 0) v ^^^ d.getD i 0
theorem xor_lt256 {a b : Nat} (ha : a < 256) (hb : b < 256) : a ^^^ b < 256 := Nat.xor_lt_two_pow (n := 8) ha hb
theorem oth_lt {a b d : List Nat} (hd : ∀ c ∈ d, c < 256) (v i : Nat) : oth a b d v i < 256 := xor_lt256 (gm_lt _ _) (getD_lt hd i)
theorem sy_two (s d : List Nat) (x i : Nat) (hi : i < 32) (hl : d.length = 32) : sy s d 2 x i = gm (d.getD i 0) x ^^^ s.getD i 0 := by
  have hk : kc 2 d.length i = 1 := by unfold kc; rw [hl]; omega
  unfold sy pl
  rw [hk]
  show gm (gm 0 x ^^^ d.getD (32 * 0 + i) 0) x ^^^ s.getD i 0 = _
  rw [zero_gm, Nat.zero_xor, Nat.mul_zero, Nat.zero_add]
theorem gm_rinv (x : Nat) (hx : x < 256) (h0 : x ≠ 0) : gm (rinv x) x = 1 := by
  have h := gm_tinv x hx h0
  rw [← rinv_is x hx h0] at h
  rw [gm_comm _ _ (by rw [rinv_is x hx h0]; exact tinv_lt ftab_small x) hx]
  exact h
theorem hides_eq (a b d : List Nat) (x : Nat) (hx : x < 256) (h0 : x ≠ 0) (ha : ∀ c ∈ a, c < 256) (hb : ∀ c ∈ b, c < 256) (hd : ∀ c ∈ d, c < 256) (hl : d.length = 32) :
    shr b (fTo (oth a b d (rinv x)) 32) 2 x = shr a d 2 x := by
  have hr : rinv x < 256 := by rw [rinv_is x hx h0]; exact tinv_lt ftab_small x
  unfold shr sys
  congr 1
  apply List.map_congr_left
  intro i hi
  have hi := List.mem_range.1 hi
  rw [sy_two _ _ _ _ hi (fTo_len _ _), sy_two _ _ _ _ hi hl, fTo_at _ _ _ hi, if_pos hi]
  unfold oth
  have hab := xor_lt256 (getD_lt ha i) (getD_lt hb i)
  rw [gm_left, gm_assoc _ _ _ hab hr hx, gm_rinv x hx h0, gm_one _ hab]
  generalize gm (d.getD i 0) x = q
  generalize a.getD i 0 = u
  generalize b.getD i 0 = v
  rw [Nat.xor_assoc u v q, Nat.xor_comm v q, ← Nat.xor_assoc u q v, Nat.xor_assoc, Nat.xor_self, Nat.xor_zero, Nat.xor_comm]
theorem rd_blk {w : World} {g B : Nat} {t : TypeId} {l : List Nat} (h : Blk w g t (vb l)) (hB : g < B) : Rd w B (some ⟨g, 0, none⟩) (byt l) := fun _ =>
  ⟨⟨g, 0, none⟩, rfl, hB, fun j u hu => by
    have e1 : (Addr.add ⟨g, 0, none⟩ j) = ⟨g, j, none⟩ := by
      unfold Addr.add; split
      · subst_vars; rfl
      · simp
    rw [e1]
    exact (h.cell j).trans (by rw [← hu, vb, List.getElem?_toArray])⟩
section
variable {P : Program} {ops : Array Oper} {w : World} {Q : Act → Prop} {a : Act} {o : Oper} {rest : List Oper}
theorem wpStill_load_mid (hw : Region.wanted o (yielded ops a.tmps) = true) (ty : TypeId) (x : Operand) (ho : o.op = .load ty x) (b off : Nat) (hx : a.eval x = .pointer (some ⟨b, off, none⟩))
    (l : List Nat) (d : TypeDesc) (hc : w.rangeAt b off (byt l)) (hu : P.underlying ty = some d) (hd : d.isRow = true) (hi : (P.info? ty).map (·.size) = some (byt l).length)
    (a' : Act) (ha : a.put o.dst (.agg (vb l)) = a') (h : wpStill P ops w Q rest a') : wpStill P ops w Q (o :: rest) a := by
  refine wpStill_step fun K hK => ?_
  rw [if_pos hw]
  have hrun : (execOp a.eval o).run P w = .ok (.value (.agg (vb l))) w := by
    unfold execOp
    simp only [ho, hx, Instr.loadAt, Instr.sureAddr, Sem.run_bind, Sem.run_pure, Result.andThen_ok, run_loadVar_mid w b off ty (byt l) d hc hu hd hi]
    rfl
  unfold Oper.still
  rw [hrun, Oper.stillUpon_value, ha]
  exact hK _ h
end
end Go.Proofs.Ytldanlglefgobaa
