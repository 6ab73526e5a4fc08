/- Contracts: the two Checks. -/
import Derived.Test.YtcmahmlcoodfoaaFra0
namespace Go.Proofs.Ytcmahmlcoodfoaa
open Go.RowKit Go.Great
set_option linter.unusedVariables false
theorem len_p (p : List Nat) (hp : p.length = 32) : (Try.prog.info? 39).map (·.size) = some (byt p).length := by rw [byt_len, hp]; kernel_rfl
theorem len_n (p : List Nat) (hp : p.length = 12) : (Try.prog.info? 41).map (·.size) = some (byt p).length := by rw [byt_len, hp]; kernel_rfl
theorem len_f {x : Fr} (h : FrOk x) (v : Value) : (Try.prog.info? 43).map (·.size) = some (frL x v).length := by rw [frL_len h]; kernel_rfl
theorem built_n : Try.prog.built 41 [] = some (vb z12) := by kernel_rfl
theorem built_12 : Try.prog.built 40 [] = some (vb z12) := by kernel_rfl
theorem built_p : Try.prog.built 39 [] = some (vb z32) := by kernel_rfl
theorem built_32 : Try.prog.built 38 [] = some (vb z32) := by kernel_rfl
theorem eq_n (l m : List Nat) (hl : l.length = 12) (hm : m.length = 12) (hs : ∀ c ∈ l, c < 256) (hs2 : ∀ c ∈ m, c < 256) (w : World) :
    (Op.equalIn 10000 41 (.agg (vb l)) (.agg (vb m))).run Try.prog w = .ok (l == m) w :=
  run_equalIn_barr Try.underlying41 Try.underlying5 (by kernel_rfl) (by kernel_rfl) l m hl hm hs hs2 w
theorem eq_p (l m : List Nat) (hl : l.length = 32) (hm : m.length = 32) (hs : ∀ c ∈ l, c < 256) (hs2 : ∀ c ∈ m, c < 256) (w : World) :
    (Op.equalIn 10000 39 (.agg (vb l)) (.agg (vb m))).run Try.prog w = .ok (l == m) w :=
  run_equalIn_barr Try.underlying39 Try.underlying5 (by kernel_rfl) (by kernel_rfl) l m hl hm hs hs2 w
/-- what is asked of a frame -/
structure Ask (K F T B O : Int) (d : Nat) (c1 c2 c3 kH kD bo l0 l1 l2 : Bool) : Prop where
  n1 : (F != T) = c1
  e1 : (F == T) = !c1
  n2 : decide (F < 32) = c2
  g2 : decide (32 ≤ F) = !c2
  n3 : decide (T < 32) = c3
  g3 : decide (32 ≤ T) = !c3
  kh : (K == 72) = kH
  kd : (K == 68) = kD
  n0 : ((d : Int) == 0) = l0
  n4 : decide ((16 : Int) ≤ d) = l1
  n5 : decide ((d : Int) ≤ 4112) = l2
set_option maxRecDepth 100000 in
set_option maxHeartbeats 4000000 in
theorem check_no (cs : Array Value) (K F T B O : Int) (p n : List Nat) (A : Option Addr) (dl c : Nat) (w : World) (c1 c2 c3 kH kD bo l0 l1 l2 eN eP R : Bool) (U : Int)
    (hcs : ∀ W g, Blk W g 43 cs → W.cell? ⟨g, 0, none⟩ = some (.int .u8 K) ∧ W.cell? ⟨g, 1, none⟩ = some (.int .u16 F) ∧ W.cell? ⟨g, 2, none⟩ = some (.int .u16 T) ∧ W.cell? ⟨g, 4, none⟩ = some (.int .u64 B) ∧ W.cell? ⟨g, 5, none⟩ = some (.int .u64 O) ∧ W.cell? ⟨g, 50, none⟩ = some (.slice A dl c) ∧ W.rangeAt g 6 (byt p) ∧ W.rangeAt g 38 (byt n))
    (hp : p.length = 32) (hn : n.length = 12)
    (qn : ∀ w, (Op.equalIn 10000 41 (.agg (vb n)) (.agg #[.int .u8 0, .int .u8 0, .int .u8 0, .int .u8 0, .int .u8 0, .int .u8 0, .int .u8 0, .int .u8 0, .int .u8 0, .int .u8 0, .int .u8 0, .int .u8 0])).run Try.prog w = .ok eN w) (qp : ∀ w, (Op.equalIn 10000 39 (.agg (vb p)) (.agg #[.int .u8 0, .int .u8 0, .int .u8 0, .int .u8 0, .int .u8 0, .int .u8 0, .int .u8 0, .int .u8 0, .int .u8 0, .int .u8 0, .int .u8 0, .int .u8 0, .int .u8 0, .int .u8 0, .int .u8 0, .int .u8 0, .int .u8 0, .int .u8 0, .int .u8 0, .int .u8 0, .int .u8 0, .int .u8 0, .int .u8 0, .int .u8 0, .int .u8 0, .int .u8 0, .int .u8 0, .int .u8 0, .int .u8 0, .int .u8 0, .int .u8 0, .int .u8 0])).run Try.prog w = .ok eP w)
    (ha : Ask K F T B O dl c1 c2 c3 kH kD bo l0 l1 l2) (hor : bits BinOp.or .u64 B O = U) (hU : (U == 0) = bo)
    (hF : (c1 && c2 && c3) = false) (hR : R = ((c1 && c2 && c3) && (if kH then eN && l0 else if kD then bo && eP && l1 && l2 else false))) :
    Calls Try.prog 25 #[.agg cs] w fun e w' => e = .returned (.int .i64 (if R then 0 else 1)) ∧ Below w.heap.size w w' := by
  have hpre : c1 = false ∨ (c1 = true ∧ c2 = false) ∨ (c1 = true ∧ c2 = true ∧ c3 = false) := by cases c1 <;> cases c2 <;> cases c3 <;> simp at hF ⊢
  have hki : kH = true ∨ (kH = false ∧ kD = true) ∨ (kH = false ∧ kD = false) := by cases kH <;> cases kD <;> simp
  have LP := Lib.hid (len_p p hp)
  have LN := Lib.hid (len_n n hn)
  obtain ⟨n1, e1, n2, g2, n3, g3, kh, kd, n0, n4, n5⟩ := ha
  clear hp hn e1 g2 g3
  rcases hpre with rfl | ⟨rfl, rfl⟩ | ⟨rfl, rfl, rfl⟩
  all_goals rcases hki with rfl | ⟨rfl, rfl⟩ | ⟨rfl, rfl⟩
  all_goals
    simp at hR
    try subst hR
    go_enter Try.func25, Try.ntmps25
    go_upto_region 1 with (refine wpList_boxTo rfl 43 (.tmp 0) rfl (some 1) rfl w.heap.size rfl cs rfl ?_)
    obtain ⟨W, hW⟩ : ∃ W, W = w.alloc (.cells cs 43) := ⟨_, rfl⟩
    obtain ⟨d0, d1, d2, d4, d5, d6, rp, rn⟩ := hcs W w.heap.size (by rw [hW]; exact Blk.new _ _ _)
    have hb : Below w.heap.size w W := by rw [hW]; exact (Below.refl _ _).alloc (Nat.le_refl _) _
    rw [← hW]
    clear hW
    have RP := Lib.hid rp
    have RN := Lib.hid rn
    have HB := Lib.hid hb
    clear rp rn hb
    go_wp2_with (first
      | (refine wpList_loadB (by kernel_rfl) 41 (.tmp 25) rfl w.heap.size 38 rfl n _ RN.out Try.underlying41 rfl LN.out ?_)
      | (refine wpList_loadB (by kernel_rfl) 39 (.tmp 48) rfl w.heap.size 6 rfl p _ RP.out Try.underlying39 rfl LP.out ?_))
    go_ret
    exact ⟨by first | rfl | assumption | simp_all, HB.out⟩
set_option maxRecDepth 100000 in
set_option maxHeartbeats 4000000 in
theorem check_go (cs : Array Value) (K F T B O : Int) (p n : List Nat) (A : Option Addr) (dl c : Nat) (w : World) (c1 c2 c3 kH kD bo l0 l1 l2 eN eP R : Bool) (U : Int)
    (hcs : ∀ W g, Blk W g 43 cs → W.cell? ⟨g, 0, none⟩ = some (.int .u8 K) ∧ W.cell? ⟨g, 1, none⟩ = some (.int .u16 F) ∧ W.cell? ⟨g, 2, none⟩ = some (.int .u16 T) ∧ W.cell? ⟨g, 4, none⟩ = some (.int .u64 B) ∧ W.cell? ⟨g, 5, none⟩ = some (.int .u64 O) ∧ W.cell? ⟨g, 50, none⟩ = some (.slice A dl c) ∧ W.rangeAt g 6 (byt p) ∧ W.rangeAt g 38 (byt n))
    (hp : p.length = 32) (hn : n.length = 12)
    (qn : ∀ w, (Op.equalIn 10000 41 (.agg (vb n)) (.agg #[.int .u8 0, .int .u8 0, .int .u8 0, .int .u8 0, .int .u8 0, .int .u8 0, .int .u8 0, .int .u8 0, .int .u8 0, .int .u8 0, .int .u8 0, .int .u8 0])).run Try.prog w = .ok eN w) (qp : ∀ w, (Op.equalIn 10000 39 (.agg (vb p)) (.agg #[.int .u8 0, .int .u8 0, .int .u8 0, .int .u8 0, .int .u8 0, .int .u8 0, .int .u8 0, .int .u8 0, .int .u8 0, .int .u8 0, .int .u8 0, .int .u8 0, .int .u8 0, .int .u8 0, .int .u8 0, .int .u8 0, .int .u8 0, .int .u8 0, .int .u8 0, .int .u8 0, .int .u8 0, .int .u8 0, .int .u8 0, .int .u8 0, .int .u8 0, .int .u8 0, .int .u8 0, .int .u8 0, .int .u8 0, .int .u8 0, .int .u8 0, .int .u8 0])).run Try.prog w = .ok eP w)
    (ha : Ask K F T B O dl c1 c2 c3 kH kD bo l0 l1 l2) (hor : bits BinOp.or .u64 B O = U) (hU : (U == 0) = bo)
    (hF : (c1 && c2 && c3) = true) (hR : R = ((c1 && c2 && c3) && (if kH then eN && l0 else if kD then bo && eP && l1 && l2 else false))) :
    Calls Try.prog 25 #[.agg cs] w fun e w' => e = .returned (.int .i64 (if R then 0 else 1)) ∧ Below w.heap.size w w' := by
  obtain ⟨⟨rfl, rfl⟩, rfl⟩ : (c1 = true ∧ c2 = true) ∧ c3 = true := by simpa using hF
  have hki : (kH = true ∧ eN = false) ∨ (kH = true ∧ eN = true ∧ l0 = false) ∨ (kH = true ∧ eN = true ∧ l0 = true) ∨ (kH = false ∧ kD = true ∧ bo = false) ∨ (kH = false ∧ kD = true ∧ bo = true ∧ eP = false) ∨ (kH = false ∧ kD = true ∧ bo = true ∧ eP = true ∧ l1 = false) ∨ (kH = false ∧ kD = true ∧ bo = true ∧ eP = true ∧ l1 = true ∧ l2 = false) ∨ (kH = false ∧ kD = true ∧ bo = true ∧ eP = true ∧ l1 = true ∧ l2 = true) ∨ (kH = false ∧ kD = false) := by
    cases kH <;> cases kD <;> cases bo <;> cases eP <;> cases l1 <;> cases eN <;> cases l0 <;> cases l2 <;> simp
  have LP := Lib.hid (len_p p hp)
  have LN := Lib.hid (len_n n hn)
  obtain ⟨n1, e1, n2, g2, n3, g3, kh, kd, n0, n4, n5⟩ := ha
  clear hp hn e1 g2 g3
  rcases hki with ⟨rfl, rfl⟩ | ⟨rfl, rfl, rfl⟩ | ⟨rfl, rfl, rfl⟩ | ⟨rfl, rfl, rfl⟩ | ⟨rfl, rfl, rfl, rfl⟩ | ⟨rfl, rfl, rfl, rfl, rfl⟩ | ⟨rfl, rfl, rfl, rfl, rfl, rfl⟩ | ⟨rfl, rfl, rfl, rfl, rfl, rfl⟩ | ⟨rfl, rfl⟩
  all_goals
    simp at hR
    try subst hR
    go_enter Try.func25, Try.ntmps25
    go_upto_region 1 with (refine wpList_boxTo rfl 43 (.tmp 0) rfl (some 1) rfl w.heap.size rfl cs rfl ?_)
    obtain ⟨W, hW⟩ : ∃ W, W = w.alloc (.cells cs 43) := ⟨_, rfl⟩
    obtain ⟨d0, d1, d2, d4, d5, d6, rp, rn⟩ := hcs W w.heap.size (by rw [hW]; exact Blk.new _ _ _)
    have hb : Below w.heap.size w W := by rw [hW]; exact (Below.refl _ _).alloc (Nat.le_refl _) _
    rw [← hW]
    clear hW
    have RP := Lib.hid rp
    have RN := Lib.hid rn
    have HB := Lib.hid hb
    clear rp rn hb
    go_wp2_with (first
      | (refine wpList_loadB (by kernel_rfl) 41 (.tmp 25) rfl w.heap.size 38 rfl n _ RN.out Try.underlying41 rfl LN.out ?_)
      | (refine wpList_loadB (by kernel_rfl) 39 (.tmp 48) rfl w.heap.size 6 rfl p _ RP.out Try.underlying39 rfl LP.out ?_))
    go_ret
    exact ⟨by first | rfl | assumption | simp_all, HB.out⟩
end Go.Proofs.Ytcmahmlcoodfoaa
