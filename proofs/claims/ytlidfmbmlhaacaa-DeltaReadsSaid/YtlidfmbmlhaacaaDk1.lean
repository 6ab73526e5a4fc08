/- The reader: its state; a short number is read. -/
import Derived.Test.YtlidfmbmlhaacaaDg4
import Derived.Test.YtlidfmbmlhaacaaDe3
namespace Go.Proofs.Ytlidfmbmlhaacaa
open Go.RowKit
set_option linter.unusedVariables false
set_option linter.unusedSimpArgs false
/-- a reader at g: what is left, whether all was in form -/
def RdrAt (w : World) (g B : Nat) (b : List Nat) (bad : Bool) : Prop :=
  ∃ A c, Blk w g 62 #[.slice A b.length c, .bool bad] ∧ Rd w B A (byt b) ∧ b.length ≤ c ∧ c ≤ maxLen
theorem RdrAt.keep {w w' : World} {g B : Nat} {b : List Nat} {bad : Bool} {S : Nat → Prop} (h : RdrAt w g B b bad) (ho : Only S w w') (hg : ¬ S g) (hB : ∀ k, k < B → ¬ S k) : RdrAt w' g B b bad := by
  obtain ⟨A, c, h1, h2, h3, h4⟩ := h
  refine ⟨A, c, h1.keep ho hg, fun hne => ?_, h3, h4⟩
  obtain ⟨ad, e, hb, hc⟩ := h2 hne
  exact ⟨ad, e, hb, fun j u hu => ho.cell (hc j u hu) (by rw [add_block]; exact hB _ hb)⟩
theorem rdr_end {w : World} {g B : Nat} {A A' : Option Addr} {c u c' : Nat} {b : List Nat} {bad : Bool} (x : Bool) (hb : Blk w g 62 #[.slice A b.length c, .bool bad]) (hrd : Rd w B A (byt b)) (hB : B ≤ g) (hc : b.length ≤ c) (hm : c ≤ maxLen) (hu : u ≤ b.length)
    (hc' : c' = c - u) (hA : c ≠ u → A' = Option.map (fun x => x.add u) A) :
    RdrAt ((w.setCell ⟨g, 1, none⟩ (.bool x)).setCell ⟨g, 0, none⟩ (.slice A' (b.length - u) c')) g B (b.drop u) x ∧ Only (fun k => k = g) w ((w.setCell ⟨g, 1, none⟩ (.bool x)).setCell ⟨g, 0, none⟩ (.slice A' (b.length - u) c')) := by
  have hdl : (b.drop u).length = b.length - u := List.length_drop ..
  have hO : Only (fun k => k = g) w ((w.setCell ⟨g, 1, none⟩ (.bool x)).setCell ⟨g, 0, none⟩ (.slice A' (b.length - u) c')) := ((Only.refl (fun k => k = g) w).setCell (p := ⟨g, 1, none⟩) (fun _ => show g = g from rfl) _).setCell (p := ⟨g, 0, none⟩) (fun _ => show g = g from rfl) _
  refine ⟨⟨A', c', ?_, fun hne => ?_, by rw [hdl]; omega, by omega⟩, hO⟩
  · rw [hdl]
    exact (hb.set_ 1 (.bool x)).set_ 0 (.slice A' (b.length - u) c')
  · have hlt : 0 < (b.drop u).length := by
      rcases Nat.eq_zero_or_pos (b.drop u).length with h0 | h0
      · rw [List.eq_nil_of_length_eq_zero h0] at hne; exact absurd rfl hne
      · exact h0
    rw [hdl] at hlt
    obtain ⟨ad, rfl, hab, hcell⟩ := hrd (by intro h0; have h3 := congrArg List.length h0; rw [byt_len, List.length_nil] at h3; omega)
    have hnb : ad.block ≠ g := by omega
    refine ⟨ad.add u, hA (by omega), by rw [add_block]; exact hab, fun j v hv => ?_⟩
    rw [Addr.add_add]
    refine hO.cell (hcell (u + j) v ?_) (by rw [add_block]; exact hnb)
    unfold byt at hv ⊢
    rw [List.map_drop, List.getElem?_drop] at hv
    exact hv
set_option maxRecDepth 100000 in
set_option maxHeartbeats 2000000 in
theorem rshortR_c (g B : Nat) (b : List Nat) (bad : Bool) (w : World) (hr : RdrAt w g B b bad) (hB : B ≤ g) (hl : ∀ c ∈ b, c < 256) (h1 : b.length ≤ 10000000) :
    Calls Try.prog 35 #[.pointer (some ⟨g, 0, none⟩)] w fun e w' => e = .returned (.int .u64 ((rdS b bad).1 : Nat)) ∧ RdrAt w' g B (rdS b bad).2.1 (rdS b bad).2.2 ∧ Only (fun k => k = g) w w' := by
  obtain ⟨A, c, hb, hrd, hc, hm⟩ := hr
  have HG := Lib.hid (getShort_c B A c b w hrd hl h1)
  have HU := Lib.hid (show (gsF 0 0 b).2.1 ≤ b.length by have := gsF_used b 0 0; omega)
  have HE1 : rdS b bad = ((gsF 0 0 b).1, b.drop (gsF 0 0 b).2.1, bad || decide ((gsF 0 0 b).2.2 ≠ 0)) := rfl
  rw [HE1]
  clear HE1
  generalize gsF 0 0 b = R at *
  obtain ⟨n, u, f⟩ := R
  simp only at HG HU ⊢
  have hu := HU.out
  have k1 : (u : Int) ≤ (b.length : Int) := by omega
  have k2 : u ≤ c := by omega
  have HF := Lib.hid (show ((f : Int) != 0) = decide (f ≠ 0) by
    rcases Nat.eq_zero_or_pos f with h0 | h0
    · subst h0; rfl
    · rw [decide_eq_true (by omega)]
      simp; omega)
  obtain ⟨q, hq⟩ : ∃ q, q = (bad || decide (f ≠ 0)) := ⟨_, rfl⟩
  rw [← hq]
  have HQ := Lib.hid hq
  clear hq
  have c0 : w.cell? ⟨g, 0, none⟩ = some (.slice A b.length c) := hb.cell 0
  have c1 : w.cell? ⟨g, 1, none⟩ = some (.bool bad) := hb.cell 1
  have f0 := hb.free 0
  have f1 := hb.free 1
  have HB := Lib.hid hb
  have HRD := Lib.hid hrd
  have HS := Lib.hid (show B ≤ g ∧ b.length ≤ c ∧ c ≤ maxLen from ⟨hB, hc, hm⟩)
  clear hb hrd hl h1 hB hm
  cases bad
  · go_enter Try.func35, Try.ntmps35
    go_wp2_with (go_at_call 51; (refine HG.out.mono ?_); rintro e W1 ⟨rfl, rfl⟩)
    all_goals go_ret
    all_goals rw [HF.out, show decide (f ≠ 0) = q by rw [HQ.out, Bool.false_or]]
    all_goals refine ⟨rfl, rdr_end _ HB.out HRD.out HS.out.1 HS.out.2.1 HS.out.2.2 HU.out ?_ (fun h => ?_)⟩
    all_goals first | omega | with_reducible rfl | exact absurd (by assumption) ‹_ ≠ _›
  · go_enter Try.func35, Try.ntmps35
    go_wp2_with (go_at_call 51; (refine HG.out.mono ?_); rintro e W1 ⟨rfl, rfl⟩)
    all_goals go_ret
    all_goals rw [show q = true by rw [HQ.out, Bool.true_or]]
    all_goals refine ⟨rfl, rdr_end _ HB.out HRD.out HS.out.1 HS.out.2.1 HS.out.2.2 HU.out ?_ (fun h => ?_)⟩
    all_goals first | omega | with_reducible rfl | exact absurd (by assumption) ‹_ ≠ _›
end Go.Proofs.Ytlidfmbmlhaacaa
