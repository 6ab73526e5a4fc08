/- The reader: bytes are read. -/
import Derived.Test.YtlidfmbmlhaacaaDk1
namespace Go.Proofs.Ytlidfmbmlhaacaa
open Go.RowKit
set_option linter.unusedVariables false
set_option linter.unusedSimpArgs false
theorem Rd.takeB {w : World} {B : Nat} {A : Option Addr} {l : List Nat} (h : Rd w B A (byt l)) (n : Nat) : Rd w B A (byt (l.take n)) := fun hn => by
  obtain ⟨ad, e, h1, h2⟩ := h (by intro h0; apply hn; unfold byt at h0 ⊢; rw [List.map_eq_nil_iff] at h0; rw [h0, List.take_nil]; rfl)
  refine ⟨ad, e, h1, fun j u hu => h2 j u ?_⟩
  unfold byt at hu ⊢
  rw [List.map_take] at hu
  have hj : j < n := by
    rcases Nat.lt_or_ge j n with h3 | h3
    · exact h3
    · rw [List.getElem?_eq_none (by rw [List.length_take]; omega)] at hu; cases hu
  rw [List.getElem?_take_of_lt hj] at hu
  exact hu
theorem rdr_end0 {w : World} {g B : Nat} {A A' : Option Addr} {c u c' : Nat} {b : List Nat} {bad : Bool} (hb : Blk w g 62 #[.slice A b.length c, .bool bad]) (hrd : Rd w B A (byt b)) (hB : B ≤ g) (hc : b.length ≤ c) (hm : c ≤ maxLen) (hu : u ≤ b.length)
    (hc' : c' = c - u) (hA : c ≠ u → A' = Option.map (fun x => x.add u) A) :
    Rd (w.setCell ⟨g, 0, none⟩ (.slice A' (b.length - u) c')) B A (byt (b.take u)) ∧ RdrAt (w.setCell ⟨g, 0, none⟩ (.slice A' (b.length - u) c')) g B (b.drop u) bad ∧ Only (fun k => k = g) w (w.setCell ⟨g, 0, none⟩ (.slice A' (b.length - u) c')) := by
  have hdl : (b.drop u).length = b.length - u := List.length_drop ..
  have hO : Only (fun k => k = g) w (w.setCell ⟨g, 0, none⟩ (.slice A' (b.length - u) c')) := (Only.refl (fun k => k = g) w).setCell (p := ⟨g, 0, none⟩) (fun _ => show g = g from rfl) _
  have hR : Rd (w.setCell ⟨g, 0, none⟩ (.slice A' (b.length - u) c')) B A (byt b) := fun hne => by
    obtain ⟨ad, rfl, hab, hcell⟩ := hrd hne
    have hnb : ad.block ≠ g := by omega
    exact ⟨ad, rfl, hab, fun j v hv => hO.cell (hcell j v hv) (by rw [add_block]; exact hnb)⟩
  refine ⟨Rd.takeB hR u, ⟨A', c', ?_, fun hne => ?_, by rw [hdl]; omega, by omega⟩, hO⟩
  · rw [hdl]
    exact hb.set_ 0 (.slice A' (b.length - u) c')
  · have hlt : 0 < (b.drop u).length := by
      rcases Nat.eq_zero_or_pos (b.drop u).length with h0 | h0
      · rw [List.eq_nil_of_length_eq_zero h0] at hne; exact absurd rfl hne
      · exact h0
    rw [hdl] at hlt
    obtain ⟨ad, rfl, hab, hcell⟩ := hR (by intro h0; have h3 := congrArg List.length h0; rw [byt_len, List.length_nil] at h3; omega)
    refine ⟨ad.add u, hA (by omega), by rw [add_block]; exact hab, fun j v hv => ?_⟩
    rw [Addr.add_add]
    refine hcell (u + j) v ?_
    unfold byt at hv ⊢
    rw [List.map_drop, List.getElem?_drop] at hv
    exact hv
/-- what reading bytes leaves -/
def BytesPost (g B : Nat) (R : List Nat × List Nat × Bool) (w : World) (e : Ending) (w' : World) : Prop := ∃ A' c', e = .returned (.slice A' R.1.length c') ∧ Rd w' B A' (byt R.1) ∧ RdrAt w' g B R.2.1 R.2.2 ∧ Only (fun k => k = g) w w'
set_option maxRecDepth 100000 in
set_option maxHeartbeats 2000000 in
theorem rbytes_c (g B n : Nat) (b : List Nat) (bad : Bool) (w : World) (hr : RdrAt w g B b bad) (hB : B ≤ g) (h1 : b.length ≤ 10000000) (hn : n < 18446744073709551616) :
    Calls Try.prog 52 #[.pointer (some ⟨g, 0, none⟩), .int .u64 (n : Nat)] w (BytesPost g B (rdB n b bad) w) := by
  obtain ⟨A, c, hb, hrd, hc, hm⟩ := hr
  have c0 : w.cell? ⟨g, 0, none⟩ = some (.slice A b.length c) := hb.cell 0
  have c1 : w.cell? ⟨g, 1, none⟩ = some (.bool bad) := hb.cell 1
  have f0 := hb.free 0
  have f1 := hb.free 1
  have fw : IntKind.u64.wrap (b.length : Int) = (b.length : Int) := by rw [IntKind.wrap_u64]; omega
  have HB := Lib.hid hb
  have HRD := Lib.hid hrd
  have HS := Lib.hid (show B ≤ g ∧ b.length ≤ c ∧ c ≤ maxLen from ⟨hB, hc, hm⟩)
  clear hb hrd hB hm
  by_cases hlt : b.length < n
  · have HE := Lib.hid (show rdB n b bad = ([], b, true) by unfold rdB; rw [if_pos hlt])
    rw [HE.out]
    have p1 : ((b.length : Nat) : Int) < (n : Int) := by omega
    go_enter Try.func52, Try.ntmps52
    go_wp2_with fail
    go_ret
    have hO : Only (fun k => k = g) w (w.setCell ⟨g, 1, none⟩ (.bool true)) := (Only.refl (fun k => k = g) w).setCell (p := ⟨g, 1, none⟩) (fun _ => show g = g from rfl) _
    refine ⟨none, 0, rfl, Rd.nil_ _ _ _, ⟨A, c, HB.out.set_ 1 (.bool true), ?_, HS.out.2.1, HS.out.2.2⟩, hO⟩
    intro hne
    obtain ⟨ad, rfl, hab, hcell⟩ := HRD.out hne
    have hnb : ad.block ≠ g := by have := HS.out.1; omega
    exact ⟨ad, rfl, hab, fun j v hv => hO.cell (hcell j v hv) (by rw [add_block]; exact hnb)⟩
  · have HE := Lib.hid (show rdB n b bad = (b.take n, b.drop n, bad) by unfold rdB; rw [if_neg hlt])
    rw [HE.out]
    have p1 : ¬ ((b.length : Nat) : Int) < (n : Int) := by omega
    have k1 : (n : Int) ≤ (b.length : Int) := by omega
    have k2 : n ≤ c := by have := HS.out.2.1; omega
    have k3 : n ≤ b.length := by omega
    have HEND := Lib.hid (fun A' c' => rdr_end0 (A' := A') (c' := c') HB.out HRD.out HS.out.1 HS.out.2.1 HS.out.2.2 k3)
    have HT := Lib.hid (show (b.take n).length = n by rw [List.length_take]; omega)
    go_enter Try.func52, Try.ntmps52
    go_wp2_with fail
    all_goals go_ret
    all_goals refine ⟨A, _, by show _ = Ending.returned (.slice A (b.take n).length _); rw [HT.out]; rfl, HEND.out _ _ ?_ (fun h => ?_)⟩
    all_goals first | omega | with_reducible rfl | exact absurd (by assumption) ‹_ ≠ _›
end Go.Proofs.Ytlidfmbmlhaacaa
