/- Contract: the document's example of what is laid. -/
import Derived.Test.YtlidfmbmlhaacaaDi2
namespace Go.Proofs.Ytlidfmbmlhaacaa
open Go.RowKit
set_option linter.unusedVariables false
set_option linter.unusedSimpArgs false
def exP : List Pc := [⟨ByteArray.mk #[97], 5, -1, 3, 1⟩]
def exB : List Nat := [9, 0, 1, 1, 97, 1, 10, 1, 3, 1, 0]
theorem ex_lay : chkL exP = 0 ∧ (layL exP).length = 43 ∧ (layL exP).take 11 = exB := by decide +kernel
theorem Rd.take_ {w : World} {B : Nat} {A : Option Addr} {l : List Nat} (h : Rd w B A (byt l)) (n : Nat) : Rd w B A (byt (l.take n)) := fun hn => by
  obtain ⟨ad, e, h1, h2⟩ := h (by intro h0; apply hn; unfold byt at h0 ⊢; rw [List.map_eq_nil_iff] at h0; rw [h0, List.take_nil]; rfl)
  refine ⟨ad, e, h1, fun j u hu => h2 j u ?_⟩
  unfold byt at hu ⊢
  rw [List.map_take] at hu
  have hj : j < n := by
    rcases Nat.lt_or_ge j n with h3 | h3
    · exact h3
    · rw [List.getElem?_eq_none (by rw [List.length_take]; omega)] at hu; cases hu
  rw [List.getElem?_take_of_lt hj] at hu
  exact hu
set_option maxRecDepth 100000 in
set_option maxHeartbeats 4000000 in
theorem awake14_c (w : World) : Calls Try.prog 9 #[] w fun e w' => e = .returned (.bool true) ∧ Below w.heap.size w w' := by
  obtain ⟨x0, x1, x2⟩ := ex_lay
  obtain ⟨Z, hZ⟩ : ∃ Z, Z = w.alloc (Obj.cells (pcs exP).toArray 31) := ⟨_, rfl⟩
  have HZ := Lib.hid (show Below w.heap.size w Z by rw [hZ]; exact (Below.refl _ _).alloc (Nat.le_refl _) _)
  have HLY := Lib.hid (show Calls Try.prog 10 #[.slice (some ⟨w.heap.size, 0, none⟩) 1 1] Z fun e w' => ∃ v, e = .returned (.tuple #[v, .int .i64 0]) ∧ OwnB w' Z.heap.size v (layL exP) ∧ Below Z.heap.size Z w' by
    have h := lay_c (some ⟨w.heap.size, 0, none⟩) 1 exP Z (by rw [hZ]; exact (rd_new w (pcs exP) 31 (0, 0)).more (by simp)) (by decide) (by decide) (by
      intro p hp
      obtain rfl : p = ⟨ByteArray.mk #[97], 5, -1, 3, 1⟩ := by simpa [exP] using hp
      exact ⟨⟨by decide, by decide, by decide, by decide, by decide, by decide⟩, by decide⟩)
    rw [show layR exP = layL exP by unfold layR; rw [if_pos x0], x0] at h
    exact h)
  have HX1 := Lib.hid x1
  have HX2 := Lib.hid x2
  generalize layL exP = L at *
  clear x0 x1 x2
  go_enter Try.func9, Try.ntmps9
  go_upto_region 2 with (first
    | (go_at_call 10; (refine (show Calls _ _ _ (w.alloc (Obj.cells (pcs exP).toArray 31)) _ from ?_)); rw [← hZ]; refine HLY.out.mono ?_; rintro e W1 ⟨v, rfl, ho, hb⟩; have HO := Lib.hid ho; have HB := Lib.hid (HZ.out.trans (hb.mono HZ.out.size)); clear ho hb))
  obtain ⟨A1, c1, rfl, hc1, _, r1⟩ := HO.out.rd
  rw [HX1.out] at hc1 ⊢
  have HR1 := Lib.hid (show Rd W1 W1.heap.size A1 (byt exB) by have h := Rd.take_ r1 11; rw [HX2.out] at h; exact h)
  obtain ⟨a1, rfl, _, _⟩ := HR1.out (by unfold byt exB; simp)
  clear r1
  have HSM := Lib.hid (fun A2 cb W (h : Below W1.heap.size W1 W) (h2 : Rd W W.heap.size A2 (byt exB)) => show Calls Try.prog 16 #[.slice (some a1) 11 c1, .slice A2 11 cb] W (Quietly (.bool true) W) by
    have h := same_c W1.heap.size W.heap.size (some a1) A2 c1 cb exB exB W (by decide) (by decide) (HR1.out.below h) h2 (by decide) (by decide)
    rw [beq_self_eq_true] at h
    exact h)
  go_wp2_with (go_at_call 16; (refine (HSM.out _ _ _ ((Below.refl _ _).alloc (Nat.le_refl _) _) ((rd_new W1 (byt exB) 5 (0, 0)).more (by simp))).mono ?_); rintro e W2 ⟨rfl, n, rfl⟩)
  go_ret
  exact ⟨rfl, HB.out.trans ((belowDrewN n ((Below.refl _ _).alloc (Nat.le_refl _) _)).mono HB.out.size)⟩
end Go.Proofs.Ytlidfmbmlhaacaa
