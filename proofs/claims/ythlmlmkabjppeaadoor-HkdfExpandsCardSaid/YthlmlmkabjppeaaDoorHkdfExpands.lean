/- HkdfExpands returns true for every key, info and numbers, where the rounds are as the program lays them. -/
import Derived.Test.YthlmlmkabjppeaaDoorLiftL
import Derived.Test.YthlmlmkabjppeaaDoorHe1
import Derived.SevenTiedAt
import Derived.Test.YthlmlmkabjppeaaDoorTie
import Derived.Test.YthlmlmkabjppeaaDoorCards
namespace Go.Proofs.YthlmlmkabjppeaaDoor
open Go Go.ChangeShapes Go.WideShapes Go.ChangeAt Go.RowKit
set_option maxRecDepth 100000 in
theorem hkdfExpands_lifted (os : Os) (started : os.Started) (H : Type) (enc : TypeId × Value → H) :
    ReturnsInHanded {} Tryd.checked os 5 .any (fun w args => (Rows.hkdfExpandsSpec.pre enc Tryd.prog Tryd.f5 [] false w args ∧ laidMetH Tryd.prog laidR w) ∧ sizedMet enc Tryd.prog Tryd.f5 (OpenSpec.ofChange Rows.hkdfExpandsSpec) false w args) (Rows.hkdfExpandsSpec.post enc Tryd.prog Tryd.f5 false true false false) := by
  refine liftL started _ rfl (by kernel_rfl) Tryd.func5 ⟨rfl, fun H ds h => ?_⟩ rfl (of_decide_eq_true (by kernel_rfl))
    (ChangeSpec.witness_shaped (enc := enc) (C := Tryd.checked) (os := os) (X := fun w _ => laidMetH Tryd.prog laidR w) false (World.doorLaid Tryd.prog 400 os) #[.slice none 0 0, .slice none 0 0, .int .i64 0, .int .i64 0] 8 rfl (World.shaped_of_RefB (by kernel_rfl) (by kernel_rfl)) (by kernel_rfl) (by kernel_rfl) (by kernel_rfl) (door_met os _)) ?_
  · match ds, h with
    | [_, _, _, _], _ => rfl
  · intro W base args ds ps ht hw0 hval hA hlt
    rw [Tryd.params5] at hA hval
    obtain ⟨v0, vs0, d0, ds0, p0, q0, hargs, rfl, rfl, h0, r0⟩ := trodAll_cons hA
    obtain ⟨v1, vs1, d1, ds1, p1, q1, rfl, rfl, rfl, h1, r1⟩ := trodAll_cons r0
    obtain ⟨v2, vs2, d2, ds2, p2, q2, rfl, rfl, rfl, h2, r2⟩ := trodAll_cons r1
    obtain ⟨v3, vs3, d3, ds3, p3, q3, rfl, rfl, rfl, h3, r3⟩ := trodAll_cons r2
    obtain ⟨rfl, rfl, rfl⟩ := trodAll_nil r3
    obtain rfl : args = #[v0, v1, v2, v3] := by cases args; simp_all
    obtain ⟨A0, l0, cap0, rfl, hl0, hr0, hm0⟩ := open_bytes (hval 0 22 v0 rfl rfl) h0
    obtain ⟨A1, l1, cap1, rfl, hl1, hr1, hm1⟩ := open_bytes (hval 1 22 v1 rfl rfl) h1
    obtain ⟨a2, rfl, rfl, rfl, w2⟩ := open_int Tryd.underlying3 (hval 2 3 v2 rfl rfl) h2
    have hb2 := bounds_i64 w2
    obtain ⟨a3, rfl, rfl, rfl, w3⟩ := open_int Tryd.underlying3 (hval 3 3 v3 rfl rfl) h3
    have hb3 := bounds_i64 w3
    exact hkdfExpands_w A0 A1 cap0 cap1 l0 l1 a2 a3 W hl0 hl1 hr0 hr1 ⟨ht, hw0⟩
theorem hkdfExpands_row : Rows.HkdfExpandsSaid :=
  OpenClaim.holds_of_wide 5 Tryd.f5 rfl rfl rfl rfl rfl rfl rfl ⟨rfl, rfl, rfl, rfl, rfl⟩ rfl rfl rfl rfl rfl (by kernel_rfl) Tryd.func5 (by kernel_rfl)
    (of_decide_eq_true (by kernel_rfl)) (by unfold Func.isWrapper; rw [if_neg (by decide +kernel)]; exact ⟨rfl, rfl⟩)
    (fun os started H enc _ => hkdfExpands_lifted os started H enc)
theorem hkdfExpands_holds : Rows.HkdfExpandsCardSaid :=
  Claim7.holds_tied_plain_at .later [] [.data] true (true, "00d67d0fc029d06f7e3b7889b7c42b3b29b437e5d7e6b60febe239e898a81daf") false
    hkdfExpands_row (fun _ h => by cases h) (by kernel_rfl) (fun _ h => by cases h) hkdfExpands_row_tie rfl ⟨rfl, rfl⟩ (by kernel_rfl) rfl
    (fun f fn hf hfn => by
      obtain rfl : f = 5 := Option.some.inj ((show Tryd.prog.funcNamed "quaestor/quaestorlaw03.HkdfExpands" = some 5 by kernel_rfl).symm.trans hf) |>.symm
      obtain rfl : fn = Tryd.f5 := (Option.some.inj (Tryd.func5.symm.trans hfn)).symm
      exact ⟨by kernel_rfl, fun j t ht => by
        rw [Tryd.params5] at ht
        have hm : t ∈ [22, 22, 3, 3] := by simpa using Array.mem_of_getElem? ht
        have hall : ([22, 22, 3, 3].all fun u => !Tryd.prog.wantsStandIn u) = true := by kernel_rfl
        exact (show Tryd.prog.wantsStandIn t = false by simpa using List.all_eq_true.1 hall t hm)⟩)
    (by kernel_rfl)
#print axioms hkdfExpands_holds
end Go.Proofs.YthlmlmkabjppeaaDoor
