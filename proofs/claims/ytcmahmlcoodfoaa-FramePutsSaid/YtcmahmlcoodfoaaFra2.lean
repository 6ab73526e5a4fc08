/- Contract: the document's Check. -/
import Derived.Test.YtcmahmlcoodfoaaFra1b
namespace Go.Proofs.Ytcmahmlcoodfoaa
open Go.RowKit Go.Great
set_option linter.unusedVariables false
set_option maxRecDepth 100000 in
set_option maxHeartbeats 4000000 in
theorem rcheck_no (cs : Array Value) (K F T B O : Int) (p n : List Nat) (A : Option Addr) (dl c : Nat) (w : World) (c1 c2 c3 kH kD bo l0 l1 l2 eN eP bB bO R : Bool)
    (hcs : ∀ W g, Blk W g 43 cs → W.cell? ⟨g, 0, none⟩ = some (.int .u8 K) ∧ W.cell? ⟨g, 1, none⟩ = some (.int .u16 F) ∧ W.cell? ⟨g, 2, none⟩ = some (.int .u16 T) ∧ W.cell? ⟨g, 4, none⟩ = some (.int .u64 B) ∧ W.cell? ⟨g, 5, none⟩ = some (.int .u64 O) ∧ W.cell? ⟨g, 50, none⟩ = some (.slice A dl c) ∧ W.rangeAt g 6 (byt p) ∧ W.rangeAt g 38 (byt n))
    (hp : p.length = 32) (hn : n.length = 12)
    (qn : ∀ w, (Op.equalIn 10000 41 (.agg (vb n)) (.agg #[.int .u8 0, .int .u8 0, .int .u8 0, .int .u8 0, .int .u8 0, .int .u8 0, .int .u8 0, .int .u8 0, .int .u8 0, .int .u8 0, .int .u8 0, .int .u8 0])).run Try.prog w = .ok eN w) (qp : ∀ w, (Op.equalIn 10000 39 (.agg (vb p)) (.agg #[.int .u8 0, .int .u8 0, .int .u8 0, .int .u8 0, .int .u8 0, .int .u8 0, .int .u8 0, .int .u8 0, .int .u8 0, .int .u8 0, .int .u8 0, .int .u8 0, .int .u8 0, .int .u8 0, .int .u8 0, .int .u8 0, .int .u8 0, .int .u8 0, .int .u8 0, .int .u8 0, .int .u8 0, .int .u8 0, .int .u8 0, .int .u8 0, .int .u8 0, .int .u8 0, .int .u8 0, .int .u8 0, .int .u8 0, .int .u8 0, .int .u8 0, .int .u8 0])).run Try.prog w = .ok eP w)
    (ha : Ask K F T B O dl c1 c2 c3 kH kD bo l0 l1 l2) (hB : (B == 0) = bB) (hO : (O == 0) = bO)
    (hF : (c1 && c2 && c3) = false) (hR : R = ((c1 && c2 && c3) && (if kH then eN && l0 else if kD then bB && bO && eP && l1 && l2 else false))) :
    Calls Try.prog 19 #[.agg cs] w fun e w' => e = .returned (.bool R) ∧ Below w.heap.size w w' := by
  have hpre : c1 = false ∨ (c1 = true ∧ c2 = false) ∨ (c1 = true ∧ c2 = true ∧ c3 = false) := by cases c1 <;> cases c2 <;> cases c3 <;> simp at hF ⊢
  have LP := Lib.hid (len_p p hp)
  have LN := Lib.hid (len_n n hn)
  obtain ⟨n1, e1, n2, g2, n3, g3, kh, kd, n0, n4, n5⟩ := ha
  clear hp hn n1 n2 n3
  rcases hpre with rfl | ⟨rfl, rfl⟩ | ⟨rfl, rfl, rfl⟩
  all_goals
    simp only [Bool.not_true, Bool.not_false] at e1 g2 g3
    simp at hR
    try subst hR
    go_enter Try.func19, Try.ntmps19
    go_upto_region 1 with (refine wpList_boxTo rfl 43 (.tmp 0) rfl (some 1) rfl w.heap.size rfl cs rfl ?_)
    obtain ⟨W, hW⟩ : ∃ W, W = w.alloc (.cells cs 43) := ⟨_, rfl⟩
    obtain ⟨d0, d1, d2, d4, d5, d6, rp, rn⟩ := hcs W w.heap.size (by rw [hW]; exact Blk.new _ _ _)
    have hb : Below w.heap.size w W := by rw [hW]; exact (Below.refl _ _).alloc (Nat.le_refl _) _
    rw [← hW]
    clear hW
    have RP := Lib.hid rp
    have RN := Lib.hid rn
    have HB := Lib.hid hb
    clear rp rn hb
    go_wp2_with (first
      | (refine wpList_loadB (by kernel_rfl) 41 (.tmp 21) rfl w.heap.size 38 rfl n _ RN.out Try.underlying41 rfl LN.out ?_)
      | (refine wpList_loadB (by kernel_rfl) 39 (.tmp 45) rfl w.heap.size 6 rfl p _ RP.out Try.underlying39 rfl LP.out ?_))
    go_ret
    exact ⟨by first | rfl | assumption | simp_all, HB.out⟩
set_option maxRecDepth 100000 in
set_option maxHeartbeats 4000000 in
theorem rcheck_go (cs : Array Value) (K F T B O : Int) (p n : List Nat) (A : Option Addr) (dl c : Nat) (w : World) (c1 c2 c3 kH kD bo l0 l1 l2 eN eP bB bO R : Bool)
    (hcs : ∀ W g, Blk W g 43 cs → W.cell? ⟨g, 0, none⟩ = some (.int .u8 K) ∧ W.cell? ⟨g, 1, none⟩ = some (.int .u16 F) ∧ W.cell? ⟨g, 2, none⟩ = some (.int .u16 T) ∧ W.cell? ⟨g, 4, none⟩ = some (.int .u64 B) ∧ W.cell? ⟨g, 5, none⟩ = some (.int .u64 O) ∧ W.cell? ⟨g, 50, none⟩ = some (.slice A dl c) ∧ W.rangeAt g 6 (byt p) ∧ W.rangeAt g 38 (byt n))
    (hp : p.length = 32) (hn : n.length = 12)
    (qn : ∀ w, (Op.equalIn 10000 41 (.agg (vb n)) (.agg #[.int .u8 0, .int .u8 0, .int .u8 0, .int .u8 0, .int .u8 0, .int .u8 0, .int .u8 0, .int .u8 0, .int .u8 0, .int .u8 0, .int .u8 0, .int .u8 0])).run Try.prog w = .ok eN w) (qp : ∀ w, (Op.equalIn 10000 39 (.agg (vb p)) (.agg #[.int .u8 0, .int .u8 0, .int .u8 0, .int .u8 0, .int .u8 0, .int .u8 0, .int .u8 0, .int .u8 0, .int .u8 0, .int .u8 0, .int .u8 0, .int .u8 0, .int .u8 0, .int .u8 0, .int .u8 0, .int .u8 0, .int .u8 0, .int .u8 0, .int .u8 0, .int .u8 0, .int .u8 0, .int .u8 0, .int .u8 0, .int .u8 0, .int .u8 0, .int .u8 0, .int .u8 0, .int .u8 0, .int .u8 0, .int .u8 0, .int .u8 0, .int .u8 0])).run Try.prog w = .ok eP w)
    (ha : Ask K F T B O dl c1 c2 c3 kH kD bo l0 l1 l2) (hB : (B == 0) = bB) (hO : (O == 0) = bO)
    (hF : (c1 && c2 && c3) = true) (hR : R = ((c1 && c2 && c3) && (if kH then eN && l0 else if kD then bB && bO && eP && l1 && l2 else false))) :
    Calls Try.prog 19 #[.agg cs] w fun e w' => e = .returned (.bool R) ∧ Below w.heap.size w w' := by
  obtain ⟨⟨rfl, rfl⟩, rfl⟩ : (c1 = true ∧ c2 = true) ∧ c3 = true := by simpa using hF
  have hki : (kH = true ∧ eN = false) ∨ (kH = true ∧ eN = true) ∨ (kH = false ∧ kD = true ∧ bB = false) ∨ (kH = false ∧ kD = true ∧ bB = true ∧ bO = false) ∨ (kH = false ∧ kD = true ∧ bB = true ∧ bO = true ∧ eP = false) ∨ (kH = false ∧ kD = true ∧ bB = true ∧ bO = true ∧ eP = true ∧ l1 = false) ∨ (kH = false ∧ kD = true ∧ bB = true ∧ bO = true ∧ eP = true ∧ l1 = true) ∨ (kH = false ∧ kD = false) := by
    cases kH <;> cases kD <;> cases bB <;> cases bO <;> cases eP <;> cases l1 <;> cases eN <;> simp
  have LP := Lib.hid (len_p p hp)
  have LN := Lib.hid (len_n n hn)
  obtain ⟨n1, e1, n2, g2, n3, g3, kh, kd, n0, n4, n5⟩ := ha
  clear hp hn n1 n2 n3
  rcases hki with ⟨rfl, rfl⟩ | ⟨rfl, rfl⟩ | ⟨rfl, rfl, rfl⟩ | ⟨rfl, rfl, rfl, rfl⟩ | ⟨rfl, rfl, rfl, rfl, rfl⟩ | ⟨rfl, rfl, rfl, rfl, rfl, rfl⟩ | ⟨rfl, rfl, rfl, rfl, rfl, rfl⟩ | ⟨rfl, rfl⟩
  all_goals
    simp only [Bool.not_true, Bool.not_false] at e1 g2 g3
    simp at hR
    try subst hR
    go_enter Try.func19, Try.ntmps19
    go_upto_region 1 with (refine wpList_boxTo rfl 43 (.tmp 0) rfl (some 1) rfl w.heap.size rfl cs rfl ?_)
    obtain ⟨W, hW⟩ : ∃ W, W = w.alloc (.cells cs 43) := ⟨_, rfl⟩
    obtain ⟨d0, d1, d2, d4, d5, d6, rp, rn⟩ := hcs W w.heap.size (by rw [hW]; exact Blk.new _ _ _)
    have hb : Below w.heap.size w W := by rw [hW]; exact (Below.refl _ _).alloc (Nat.le_refl _) _
    rw [← hW]
    clear hW
    have RP := Lib.hid rp
    have RN := Lib.hid rn
    have HB := Lib.hid hb
    clear rp rn hb
    go_wp2_with (first
      | (refine wpList_loadB (by kernel_rfl) 41 (.tmp 21) rfl w.heap.size 38 rfl n _ RN.out Try.underlying41 rfl LN.out ?_)
      | (refine wpList_loadB (by kernel_rfl) 39 (.tmp 45) rfl w.heap.size 6 rfl p _ RP.out Try.underlying39 rfl LP.out ?_))
    go_ret
    exact ⟨by first | rfl | assumption | simp_all, HB.out⟩
theorem rcheck_c (x : Fr) (A : Option Addr) (c : Nat) (w : World) (hx : FrOk x) :
    Calls Try.prog 19 #[.agg (frV x (.slice A x.d.length c))] w fun e w' => e = .returned (.bool (ckF x)) ∧ Below w.heap.size w w' := by
  have e : ∀ a : Nat, ((a : Int) == 0) = decide (a = 0) := fun a => by rw [Bool.eq_iff_iff]; simp only [beq_iff_eq, decide_eq_true_eq]; omega
  have ha := ask_of x false
  have qn := eq_n x.n z12 hx.n z12_len hx.ns z12_lt
  have qp := eq_p x.p z32 hx.p z32_len hx.ps z32_lt
  have hR : ckF x = (((x.f != x.t) && decide (x.f < 32) && decide (x.t < 32)) && (if decide (x.k = 72) then (x.n == z12) && decide (x.d.length = 0) else if decide (x.k = 68) then decide (x.b = 0) && decide (x.o = 0) && (x.p == z32) && decide (16 ≤ x.d.length) && decide (x.d.length ≤ 4112) else false)) := by
    unfold ckF
    by_cases h1 : x.k = 72
    · simp [h1]
    · by_cases h2 : x.k = 68
      · simp [h2, Bool.and_assoc]
      · simp [h1, h2]
  cases hF : ((x.f != x.t) && decide (x.f < 32) && decide (x.t < 32))
  · exact rcheck_no _ _ _ _ _ _ _ _ _ _ _ w _ _ _ _ _ _ _ _ _ _ _ _ _ _ (frV_cells hx _) hx.p hx.n qn qp ha (e _) (e _) hF hR
  · exact rcheck_go _ _ _ _ _ _ _ _ _ _ _ w _ _ _ _ _ _ _ _ _ _ _ _ _ _ (frV_cells hx _) hx.p hx.n qn qp ha (e _) (e _) hF hR
end Go.Proofs.Ytcmahmlcoodfoaa
