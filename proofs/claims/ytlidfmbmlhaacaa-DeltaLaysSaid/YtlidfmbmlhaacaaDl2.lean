/- Contract: whether two rows of pieces are the same. -/
import Derived.Test.YtlidfmbmlhaacaaDj1
import Derived.Laws.StructEq
namespace Go.Proofs.Ytlidfmbmlhaacaa
open Go.RowKit
set_option linter.unusedVariables false
set_option linter.unusedSimpArgs false
def eqP (p q : Pc) : Bool := (p.s.toList == q.s.toList) && ((p.t == q.t) && ((p.v == q.v) && ((p.n == q.n) && (p.d == q.d))))
theorem eqP_iff (p q : Pc) : eqP p q = true ↔ p = q := by
  unfold eqP
  simp only [Bool.and_eq_true, beq_iff_eq]
  constructor
  · rintro ⟨h1, h2, h3, h4, h5⟩
    cases p; cases q
    simp only at h1 h2 h3 h4 h5
    rw [toList_inj h1, h2, h3, h4, h5]
  · rintro rfl; simp
theorem int_beq (a b : Nat) : ((a : Int) == (b : Int)) = (a == b) := by
  rw [Bool.eq_iff_iff, beq_iff_eq, beq_iff_eq]; omega
set_option maxRecDepth 100000 in
theorem run_eq_id (n d n2 d2 : Nat) (w : World) (D : Nat) :
    (Op.equalIn (D + 2) 29 (.agg (idV n d)) (.agg (idV n2 d2))).run Try.prog w = .ok ((n == n2) && (d == d2)) w := by
  have hf : ∃ f0 f1 : Field, Try.prog.underlying 29 = some (.struct #[f0, f1]) ∧ f0.offset = 0 ∧ f1.offset = 1 ∧ f0.type = 26 ∧ f1.type = 27 ∧ f0.name ≠ "_" ∧ f1.name ≠ "_" := ⟨_, _, Try.underlying29, rfl, rfl, rfl, rfl, by decide, by decide⟩
  obtain ⟨f0, f1, hu, o0, o1, k0, k1, n0, n1⟩ := hf
  have hF : Try.prog.fieldsOf 29 = #[f0, f1] := by unfold Program.fieldsOf; rw [hu]
  rw [run_equalIn_struct w (D + 1) _ _ _ (by rw [hF]; exact hu) (by kernel_rfl), hF]
  have p0 : ∀ (a b : Value), (part 26 #[a, b] 0).run Try.prog w = .ok a w := by intro a b; kernel_rfl
  have p1 : ∀ (a b : Value), (part 27 #[a, b] 1).run Try.prog w = .ok b w := by intro a b; kernel_rfl
  have q0 := run_equalIn_int (P := Try.prog) w D 26 .u64 .u64 (n : Int) (n2 : Int) Try.underlying26
  have q1 := run_equalIn_int (P := Try.prog) w D 27 .u16 .u16 (d : Int) (d2 : Int) Try.underlying27
  simp only [Op.eqFields, n0, n1, k0, k1, o0, o1, idV, p0, p1, q0, q1, Sem.run_bind, Sem.run_ite, Sem.run_pure, Result.andThen_ok, ne_eq, not_false_eq_true, if_true, int_beq]
  cases (n == n2) <;> cases (d == d2) <;> simp
set_option maxRecDepth 100000 in
theorem run_eq_piece (p q : Pc) (w : World) : (Op.equalIn 10000 31 (.agg (pcV p)) (.agg (pcV q))).run Try.prog w = .ok (eqP p q) w := by
  have hf : ∃ f0 f1 f2 f3 : Field, Try.prog.underlying 31 = some (.struct #[f0, f1, f2, f3]) ∧ f0.offset = 0 ∧ f1.offset = 1 ∧ f2.offset = 2 ∧ f3.offset = 3 ∧ f0.type = 9 ∧ f1.type = 2 ∧ f2.type = 2 ∧ f3.type = 29 ∧ f0.name ≠ "_" ∧ f1.name ≠ "_" ∧ f2.name ≠ "_" ∧ f3.name ≠ "_" := ⟨_, _, _, _, Try.underlying31, rfl, rfl, rfl, rfl, rfl, rfl, rfl, rfl, by decide, by decide, by decide, by decide⟩
  obtain ⟨f0, f1, f2, f3, hu, o0, o1, o2, o3, k0, k1, k2, k3, n0, n1, n2, n3⟩ := hf
  have hF : Try.prog.fieldsOf 31 = #[f0, f1, f2, f3] := by unfold Program.fieldsOf; rw [hu]
  rw [show 10000 = 9999 + 1 from rfl, run_equalIn_struct w 9999 _ _ _ (by rw [hF]; exact hu) (by kernel_rfl), hF]
  have p0 : ∀ (a b c d e : Value), (part 9 #[a, b, c, d, e] 0).run Try.prog w = .ok a w := by intro a b c d e; kernel_rfl
  have p1 : ∀ (a b c d e : Value), (part 2 #[a, b, c, d, e] 1).run Try.prog w = .ok b w := by intro a b c d e; kernel_rfl
  have p2 : ∀ (a b c d e : Value), (part 2 #[a, b, c, d, e] 2).run Try.prog w = .ok c w := by intro a b c d e; kernel_rfl
  have p3 : ∀ (a b c d e : Value), (part 29 #[a, b, c, d, e] 3).run Try.prog w = .ok (.agg #[d, e]) w := by intro a b c d e; kernel_rfl
  have q0 := run_equalIn_string (P := Try.prog) w 9998 9 p.s q.s Try.underlying9
  have q1 := run_equalIn_int (P := Try.prog) w 9998 2 .i64 .i64 p.t q.t Try.underlying2
  have q2 := run_equalIn_int (P := Try.prog) w 9998 2 .i64 .i64 p.v q.v Try.underlying2
  have q3 := run_eq_id p.n p.d q.n q.d w 9997
  simp only [idV] at q3
  simp only [Op.eqFields, n0, n1, n2, n3, k0, k1, k2, k3, o0, o1, o2, o3, pcV, pcL, p0, p1, p2, p3, q0, q1, q2, q3, Sem.run_bind, Sem.run_ite, Sem.run_pure, Result.andThen_ok, ne_eq, not_false_eq_true, if_true]
  unfold eqP
  cases (p.s.toList == q.s.toList) <;> cases (p.t == q.t) <;> cases (p.v == q.v) <;> cases (p.n == q.n) <;> cases (p.d == q.d) <;> simp
set_option maxRecDepth 100000 in
set_option maxHeartbeats 2000000 in
theorem rsameP_c (B1 B2 : Nat) (A1 A2 : Option Addr) (c1 c2 : Nat) (l : List Pc) (w : World) (hr1 : RdP w B1 A1 l) (hr2 : RdP w B2 A2 l) (hn : l.length ≤ 9223372036854775807) :
    Calls Try.prog 18 #[.slice A1 l.length c1, .slice A2 l.length c2] w (Quietly (.bool true) w) := by
  have HR1 := Lib.hid hr1
  have HR2 := Lib.hid hr2
  clear hr1 hr2
  go_enter Try.func18, Try.ntmps18
  go_wp2_with fail
  go_loopw [5] (fun i wr => ∃ k z : Nat, k ≤ l.length ∧ i = .int .i64 k ∧ wr = w.drewN z) (fun i _ => l.length - (intOf i).toNat)
  case atStart => exact ⟨0, 0, by omega, rfl, rfl⟩
  case round =>
    obtain ⟨k, z, hk, rfl, rfl⟩ := hrel
    by_cases hlt : k < l.length
    · have hr1 := HR1.out
      have hr2 := HR2.out
      obtain ⟨al, rfl, _, h1⟩ := hr1.open_ (by omega)
      obtain ⟨bl, rfl, _, h2⟩ := hr2.open_ (by omega)
      have R1 := Lib.hid (fun (W : World) (h : ∃ z, W = w.drewN z) => (show AtA W (al.add (k * 5)) (pcL (l.getD k pc0)) by obtain ⟨z, rfl⟩ := h; exact h1.piece k hlt))
      have R2 := Lib.hid (fun (W : World) (h : ∃ z, W = w.drewN z) => (show AtA W (bl.add (k * 5)) (pcL (l.getD k pc0)) by obtain ⟨z, rfl⟩ := h; exact h2.piece k hlt))
      have HSB := Lib.hid (pcLn (l.getD k pc0))
      have hkn : (k : Int) < (l.length : Int) := by omega
      have l3 : ∀ W, (Op.equalIn 10000 31 (.agg (pcV (l.getD k pc0))) (.agg (pcV (l.getD k pc0)))).run Try.prog W = .ok true W := fun W => by
        rw [run_eq_piece, (eqP_iff _ _).2 rfl]
      clear h1 h2 hr1 hr2
      generalize l.getD k pc0 = p at *
      unfold pcV at l3
      go_wp2_with fail
      refine wp_region_class (fun z => w.drewN z) (by kernel_rfl) (by kernel_rfl) ⟨z + 1, rfl⟩ ?_
      repeat (first
        | (refine wpQuiet_loadA 31 (.tmp 19) rfl rfl (al.add (k * 5)) rfl (pcL p) _ R1.out Try.underlying31 rfl HSB.out _ (by simp only [Act.put, List.setIfInBounds_toArray, List.set_cons_succ, List.set_cons_zero]; rfl) ?_)
        | (refine wpQuiet_loadA 31 (.tmp 23) rfl rfl (bl.add (k * 5)) rfl (pcL p) _ R2.out Try.underlying31 rfl HSB.out _ (by simp only [Act.put, List.setIfInBounds_toArray, List.set_cons_succ, List.set_cons_zero]; rfl) ?_)
        | go_big_quiet_step (fail))
      refine wpQuiet_nil ?_
      rintro _ ⟨z3, rfl⟩
      go_wp2_with fail
      go_roundw
      case rel =>
        go_light
        exact ⟨k + 1, z3, by omega, by go_num, rfl⟩
      case measure => simp [intOf]; omega
    · have hkn : k = l.length := by omega
      have h0 : decide (k < l.length) = false := decide_eq_false hlt
      clear hkn
      go_wp2_with fail
      go_ret
      exact ⟨rfl, z, rfl⟩
end Go.Proofs.Ytlidfmbmlhaacaa
