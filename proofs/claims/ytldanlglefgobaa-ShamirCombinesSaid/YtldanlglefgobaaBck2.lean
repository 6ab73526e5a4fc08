/- ShamirBack: the walk. -/
import Derived.Test.YtldanlglefgobaaBck1
namespace Go.Proofs.Ytldanlglefgobaa
open Go.RowKit
set_option linter.unusedVariables false
section
variable {P : Program}
theorem wpList_load_rowG {ops : Array Oper} {rest : List Oper} {o : Oper} {a : Act} {w : World} {Q : Exit → Act → World → Prop} (hw : Region.wanted o (yielded ops a.tmps) = true) (ty : TypeId) (x : Operand) (ho : o.op = .load ty x)
    (g : Nat) (hx : a.eval x = .pointer (some ⟨g, 0, none⟩)) (t : TypeId) (cs : Array Value) (fr : Nat × Nat) (d : TypeDesc) (hg : w.heap[g]? = some (.cells cs t fr))
    (hu : P.underlying ty = some d) (hd : (match d with | .struct _ | .array _ _ => true | _ => false) = true) (hi : (P.info? ty).map (·.size) = some cs.size)
    (h : wpList P ops Q rest (a.put o.dst (.agg cs)) w) : wpList P ops Q (o :: rest) a w :=
  wpList_step fun K hK => by
    rw [if_pos hw]
    exact wp_load_row ty x ho g hx t cs fr d hg hu hd hi (hK _ _ h)
end
theorem rep_lt {s d e : List Nat} (hs : ∀ c ∈ s, c < 256) (hd : ∀ c ∈ d, c < 256) (he : ∀ c ∈ e, c < 256) (t n : Nat) (hn : n ≤ 8) : ∀ r, ∀ c ∈ rep (shf s d t n) e t n r, c < 256
  | 0 => by
    intro c hc
    obtain ⟨i, hi, h⟩ := List.mem_flatMap.1 hc
    have hi := List.mem_range.1 hi
    exact shr_lt (by omega) hs hd c h
  | r + 1 => rfL_lt (rep_lt hs hd he t n hn r) he t n
theorem rep_plc (s d e : List Nat) (t n : Nat) (r : Nat) : plc (rep (shf s d t n) e t n r) n = 0 :=
  plc_ok (fun j hj => by rw [rep_x s d e t n hj r]; omega) (fun i j hi hj => by rw [rep_x s d e t n hi r, rep_x s d e t n (by omega) r]; omega)
theorem OwnS.atA {w : World} {base g cap n : Nat} {l : List Nat} (h : OwnS w base (.slice (some ⟨g, 0, none⟩) n cap) n l) : AtA w ⟨g, 0, none⟩ (byt l) := fun j u hu => by
  rw [Addr.add_mid, Nat.zero_add]
  exact h.cells j u hu
set_option maxRecDepth 100000 in
set_option maxHeartbeats 1000000 in
theorem back_out (s d e : List Nat) (n t first : Int) (u : Nat) (cd ce : Nat) (D E : Option Addr) (w : World) (h : n < 1 ∨ 8 < n ∨ t < 1 ∨ n < t ∨ 300 < d.length ∨ 300 < e.length) :
    Calls Try.prog 12 #[.agg (vb s), .int .i64 n, .int .i64 t, .slice D d.length cd, .slice E e.length ce, .int .i64 first, .int .u8 u] w (Yes w) := by
  have hcase : decide (n < 1) = true ∨ (decide (n < 1) = false ∧ decide (8 < n) = true) ∨ (decide (n < 1) = false ∧ decide (8 < n) = false ∧ decide (t < 1) = true) ∨ (decide (n < 1) = false ∧ decide (8 < n) = false ∧ decide (t < 1) = false ∧ decide (n < t) = true) ∨
      (decide (n < 1) = false ∧ decide (8 < n) = false ∧ decide (t < 1) = false ∧ decide (n < t) = false ∧ 300 < d.length) ∨ (decide (n < 1) = false ∧ decide (8 < n) = false ∧ decide (t < 1) = false ∧ decide (n < t) = false ∧ ¬ 300 < d.length ∧ 300 < e.length) := by
    by_cases h1 : n < 1
    · exact .inl (decide_eq_true h1)
    · by_cases h2 : 8 < n
      · exact .inr (.inl ⟨decide_eq_false h1, decide_eq_true h2⟩)
      · by_cases h3 : t < 1
        · exact .inr (.inr (.inl ⟨decide_eq_false h1, decide_eq_false h2, decide_eq_true h3⟩))
        · by_cases h4 : n < t
          · exact .inr (.inr (.inr (.inl ⟨decide_eq_false h1, decide_eq_false h2, decide_eq_false h3, decide_eq_true h4⟩)))
          · by_cases h5 : 300 < d.length
            · exact .inr (.inr (.inr (.inr (.inl ⟨decide_eq_false h1, decide_eq_false h2, decide_eq_false h3, decide_eq_false h4, h5⟩))))
            · exact .inr (.inr (.inr (.inr (.inr ⟨decide_eq_false h1, decide_eq_false h2, decide_eq_false h3, decide_eq_false h4, h5, by omega⟩))))
  clear h
  rcases hcase with h1 | ⟨h1, h2⟩ | ⟨h1, h2, h3⟩ | ⟨h1, h2, h3, h4⟩ | ⟨h1, h2, h3, h4, h5⟩ | ⟨h1, h2, h3, h4, h5, h6⟩
  all_goals
    go_enter Try.func12, Try.ntmps12
    go_wp2_with (go_at_call 23; ((with_reducible refine (awake08_c _).mono ?_); rintro e w2 ⟨rfl, hb⟩))
    go_ret
    exact ⟨rfl, ((Below.refl _ _).alloc (Nat.le_refl _) _).trans (hb.mono (by simp))⟩
end Go.Proofs.Ytldanlglefgobaa
