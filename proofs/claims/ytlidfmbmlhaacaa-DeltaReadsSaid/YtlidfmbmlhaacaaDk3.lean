/- The reader: what it leaves, and how many pieces: plain. -/
import Derived.Test.YtlidfmbmlhaacaaDe3
namespace Go.Proofs.Ytlidfmbmlhaacaa
open Go.RowKit
set_option linter.unusedVariables false
set_option linter.unusedSimpArgs false
theorem zag_lo (n : Nat) (h : n < 18446744073709551616) : -9223372036854775808 ≤ zag n := by unfold zag; split <;> omega
theorem zag_hi (n : Nat) (h : n < 18446744073709551616) : zag n ≤ 9223372036854775807 := by unfold zag; split <;> omega
/-- a number read: how much is left -/
theorem rdS_facts {b b1 : List Nat} {bad x1 : Bool} {n1 : Nat} (hb : ∀ c ∈ b, c < 256) (h : rdS b bad = (n1, b1, x1)) : n1 < 18446744073709551616 ∧ (∀ c ∈ b1, c < 256) ∧ b1.length ≤ b.length ∧ (x1 = false → bad = false ∧ b1.length < b.length) := by
  unfold rdS at h
  injection h with e1 h
  injection h with e2 e3
  subst e1 e2 e3
  refine ⟨gsF_lt b hb 0 0 (by omega) (by decide), fun c hc => hb c (List.mem_of_mem_drop hc), by rw [List.length_drop]; omega, fun hx => ?_⟩
  rw [Bool.or_eq_false_iff, decide_eq_false_iff_not] at hx
  have h0 : (gsF 0 0 b).2.2 = 0 := by omega
  have h1 := gsF_pos b 0 0 h0
  have h2 := gsF_used b 0 0
  refine ⟨hx.1, ?_⟩
  rw [List.length_drop]
  omega
theorem rdB_facts {b b1 l1 : List Nat} {bad x1 : Bool} {n : Nat} (hb : ∀ c ∈ b, c < 256) (h : rdB n b bad = (l1, b1, x1)) : (∀ c ∈ l1, c < 256) ∧ l1.length ≤ b.length ∧ (∀ c ∈ b1, c < 256) ∧ b1.length ≤ b.length ∧ (x1 = false → bad = false ∧ l1.length = n ∧ b1.length + n = b.length) := by
  unfold rdB at h
  split at h
  · injection h with e1 h
    injection h with e2 e3
    subst e1 e2 e3
    exact ⟨by simp, by simp, hb, Nat.le_refl _, fun hx => by cases hx⟩
  · injection h with e1 h
    injection h with e2 e3
    subst e1 e2 e3
    refine ⟨fun c hc => hb c (List.mem_of_mem_take hc), by rw [List.length_take]; omega, fun c hc => hb c (List.mem_of_mem_drop hc), by rw [List.length_drop]; omega, fun hx => ⟨hx, by rw [List.length_take]; omega, by rw [List.length_drop]; omega⟩⟩
theorem num2_lt {l : List Nat} (hb : ∀ c ∈ l, c < 256) (h : l.length ≤ 2) : number l < 65536 := by
  have h1 := number_lt l hb
  have h2 : 256 ^ l.length ≤ 256 ^ 2 := Nat.pow_le_pow_right (by decide) h
  have : (256 : Nat) ^ 2 = 65536 := by decide
  omega
theorem rpL_facts (s : ByteArray) : ∀ (i : Nat) (b : List Nat) (bad : Bool) (t step v : Int) (acc : List Pc), (∀ c ∈ b, c < 256) → (∀ p ∈ acc, PcOk p ∧ p.s = s) →
    (∀ p ∈ (rpL s i b bad t step v acc).1, PcOk p ∧ p.s = s) ∧ (rpL s i b bad t step v acc).1.length + (rpL s i b bad t step v acc).2.1.length ≤ acc.length + b.length ∧ (∀ c ∈ (rpL s i b bad t step v acc).2.1, c < 256) ∧ (rpL s i b bad t step v acc).2.1.length ≤ b.length ∧ ((rpL s i b bad t step v acc).2.2 = false → bad = false) := by
  intro i
  induction i with
  | zero => intro b bad t step v acc hb ha; exact ⟨ha, Nat.le_refl _, hb, Nat.le_refl _, id⟩
  | succ i ih =>
    intro b bad t step v acc hb ha
    obtain ⟨n1, b1, x1, h1⟩ : ∃ n1 b1 x1, rdS b bad = (n1, b1, x1) := ⟨_, _, _, rfl⟩
    obtain ⟨n2, b2, x2, h2⟩ : ∃ n2 b2 x2, rdS b1 x1 = (n2, b2, x2) := ⟨_, _, _, rfl⟩
    obtain ⟨n3, b3, x3, h3⟩ : ∃ n3 b3 x3, rdS b2 x2 = (n3, b3, x3) := ⟨_, _, _, rfl⟩
    obtain ⟨l4, b4, x4, h4⟩ : ∃ l4 b4 x4, rdB 2 b3 x3 = (l4, b4, x4) := ⟨_, _, _, rfl⟩
    rw [rpL_step s i b bad t step v acc h1 h2 h3 h4]
    obtain ⟨f11, f12, f13, f14⟩ := rdS_facts hb h1
    obtain ⟨f21, f22, f23, f24⟩ := rdS_facts f12 h2
    obtain ⟨f31, f32, f33, f34⟩ := rdS_facts f22 h3
    obtain ⟨f41, f42, f43, f44, f45⟩ := rdB_facts f32 h4
    cases x4 with
    | true =>
      simp only [if_true]
      refine ⟨ha, by omega, f43, by omega, fun hx => by cases hx⟩
    | false =>
      simp only [Bool.false_eq_true, if_false]
      obtain ⟨g1, g2, g3⟩ := f45 rfl
      obtain ⟨g4, g5⟩ := f34 g1
      obtain ⟨g6, g7⟩ := f24 g4
      obtain ⟨g8, g9⟩ := f14 g6
      obtain ⟨r1, r2, r3, r4, r5⟩ := ih b4 false (w64 (t + w64 (step + zag n1))) (w64 (step + zag n1)) (w64 (v + zag n2)) (acc ++ [⟨s, w64 (t + w64 (step + zag n1)), w64 (v + zag n2), n3, number l4⟩]) f43 (fun p hp => by
        rcases List.mem_append.1 hp with hp | hp
        · exact ha p hp
        · obtain rfl := List.mem_singleton.1 hp
          exact ⟨⟨w64_lo _, w64_hi _, w64_lo _, w64_hi _, f31, num2_lt f41 (by omega)⟩, rfl⟩)
      refine ⟨r1, ?_, r3, by omega, fun _ => g8⟩
      rw [List.length_append] at r2
      simp only [List.length_cons, List.length_nil] at r2
      omega
theorem rsL_facts (b : List Nat) (bad : Bool) (hb : ∀ c ∈ b, c < 256) : (∀ p ∈ (rsL b bad).1, PcOk p ∧ p.s.size ≤ b.length) ∧ (rsL b bad).1.length + (rsL b bad).2.1.length ≤ b.length ∧ (∀ c ∈ (rsL b bad).2.1, c < 256) ∧ ((rsL b bad).2.2 = false → bad = false) := by
  obtain ⟨n1, b1, x1, h1⟩ : ∃ n1 b1 x1, rdS b bad = (n1, b1, x1) := ⟨_, _, _, rfl⟩
  obtain ⟨l2, b2, x2, h2⟩ : ∃ l2 b2 x2, rdB n1 b1 x1 = (l2, b2, x2) := ⟨_, _, _, rfl⟩
  obtain ⟨n3, b3, x3, h3⟩ : ∃ n3 b3 x3, rdS b2 x2 = (n3, b3, x3) := ⟨_, _, _, rfl⟩
  rw [rsL_eq b bad h1 h2 h3]
  obtain ⟨f11, f12, f13, f14⟩ := rdS_facts hb h1
  obtain ⟨f21, f22, f23, f24, f25⟩ := rdB_facts f12 h2
  obtain ⟨f31, f32, f33, f34⟩ := rdS_facts f23 h3
  obtain ⟨r1, r2, r3, r4, r5⟩ := rpL_facts ⟨(l2.map UInt8.ofNat).toArray⟩ n3 b3 x3 0 0 0 [] f32 (fun p hp => by cases hp)
  refine ⟨fun p hp => ⟨(r1 p hp).1, ?_⟩, by simp only [List.length_nil] at r2; omega, r3, fun hx => (f14 (f25 (f34 (r5 hx)).1).1).1⟩
  rw [(r1 p hp).2]
  show ((l2.map UInt8.ofNat).toArray).size ≤ _
  simp
  omega
theorem rgL_facts (N : Nat) : ∀ (i : Nat) (b : List Nat) (bad : Bool) (acc : List Pc), (∀ c ∈ b, c < 256) → b.length ≤ N → (∀ p ∈ acc, PcOk p ∧ p.s.size ≤ N) →
    (∀ p ∈ (rgL i b bad acc).1, PcOk p ∧ p.s.size ≤ N) ∧ (rgL i b bad acc).1.length ≤ acc.length + b.length := by
  intro i
  induction i with
  | zero => intro b bad acc hb hn ha; exact ⟨ha, Nat.le_add_right _ _⟩
  | succ i ih =>
    intro b bad acc hb hn ha
    obtain ⟨f1, f2, f3, f4⟩ := rsL_facts b bad hb
    rw [rgL]
    have hacc : ∀ p ∈ acc ++ (rsL b bad).1, PcOk p ∧ p.s.size ≤ N := fun p hp => by
      rcases List.mem_append.1 hp with hp | hp
      · exact ha p hp
      · exact ⟨(f1 p hp).1, by have := (f1 p hp).2; omega⟩
    split
    · exact ⟨hacc, by simp only [List.length_append]; omega⟩
    · obtain ⟨r1, r2⟩ := ih _ false _ f3 (by omega) hacc
      exact ⟨r1, by rw [List.length_append] at r2; omega⟩
theorem body_lt {b : List Nat} (hb : ∀ c ∈ b, c < 256) : ∀ c ∈ bodyL b, c < 256 := fun c hc => hb c (List.mem_of_mem_drop (List.mem_of_mem_take hc))
theorem body_len (b : List Nat) : (bodyL b).length ≤ b.length := by unfold bodyL; rw [List.length_take, List.length_drop]; omega
theorem readB_facts {b : List Nat} (hb : ∀ c ∈ b, c < 256) : (∀ p ∈ (readB b).1, PcOk p ∧ p.s.size ≤ b.length) ∧ (readB b).1.length ≤ b.length := by
  have hl := body_len b
  obtain ⟨n1, b1, x1, h1⟩ : ∃ n1 b1 x1, rdS (bodyL b) false = (n1, b1, x1) := ⟨_, _, _, rfl⟩
  obtain ⟨f11, f12, f13, f14⟩ := rdS_facts (body_lt hb) h1
  unfold readB
  rw [h1]
  obtain ⟨r1, r2⟩ := rgL_facts b.length n1 b1 x1 [] f12 (by omega) (fun p hp => by cases hp)
  exact ⟨r1, by rw [List.length_nil] at r2; show (rgL n1 b1 x1 []).1.length ≤ _; omega⟩
theorem readL_ok {b : List Nat} (hb : ∀ c ∈ b, c < 256) : ∀ p ∈ readL b, PcOk p := by
  unfold readL
  split
  · exact fun p hp => ((readB_facts hb).1 p hp).1
  · intro p hp; cases hp
end Go.Proofs.Ytlidfmbmlhaacaa
