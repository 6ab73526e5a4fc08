/- ChainSteps returns true for every key, number and two steps, where the rounds are as the program lays them. -/
import Derived.Test.YthlmlmkabjppeaaDoorLiftL
import Derived.Test.YthlmlmkabjppeaaDoorOpM
import Derived.Test.YthlmlmkabjppeaaDoorCh5
import Derived.SevenTiedAt
import Derived.Test.YthlmlmkabjppeaaDoorTie
import Derived.Test.YthlmlmkabjppeaaDoorCards
namespace Go.Proofs.YthlmlmkabjppeaaDoor
open Go Go.ChangeShapes Go.WideShapes Go.ChangeAt Go.RowKit
set_option maxRecDepth 100000 in
theorem chainSteps_lifted (os : Os) (started : os.Started) (H : Type) (enc : TypeId × Value → H) :
    ReturnsInHanded {} Tryd.checked os 9 .any (fun w args => (Rows.chainStepsSpec.pre enc Tryd.prog Tryd.f9 [] false w args ∧ laidMetH Tryd.prog laidR w) ∧ sizedMet enc Tryd.prog Tryd.f9 (OpenSpec.ofChange Rows.chainStepsSpec) false w args) (Rows.chainStepsSpec.post enc Tryd.prog Tryd.f9 false true false false) := by
  refine liftL started _ rfl (by kernel_rfl) Tryd.func9 ⟨rfl, fun H ds h => ?_⟩ rfl (of_decide_eq_true (by kernel_rfl))
    (ChangeSpec.witness_shaped (enc := enc) (C := Tryd.checked) (os := os) (X := fun w _ => laidMetH Tryd.prog laidR w) false (World.doorLaid Tryd.prog 400 os) #[.agg (Array.replicate 32 (.int .u8 0)), .int .u16 0, .int .u8 0, .int .u8 0] 8 rfl (World.shaped_of_RefB (by kernel_rfl) (by kernel_rfl)) (by kernel_rfl) (by kernel_rfl) (by kernel_rfl) (door_met os _)) ?_
  · match ds, h with
    | [_, _, _, _], _ => rfl
  · intro W base args ds ps ht hw0 hval hA hlt
    rw [Tryd.params9] at hA hval
    obtain ⟨v0, vs0, d0, ds0, p0, q0, hargs, rfl, rfl, h0, r0⟩ := trodAll_cons hA
    obtain ⟨v1, vs1, d1, ds1, p1, q1, rfl, rfl, rfl, h1, r1⟩ := trodAll_cons r0
    obtain ⟨v2, vs2, d2, ds2, p2, q2, rfl, rfl, rfl, h2, r2⟩ := trodAll_cons r1
    obtain ⟨v3, vs3, d3, ds3, p3, q3, rfl, rfl, rfl, h3, r3⟩ := trodAll_cons r2
    obtain ⟨rfl, rfl, rfl⟩ := trodAll_nil r3
    obtain rfl : args = #[v0, v1, v2, v3] := by cases args; simp_all
    obtain ⟨k0, rfl, kl0, ks0⟩ := open_key (hval 0 47 v0 rfl rfl) h0
    obtain ⟨a1, rfl, rfl, rfl, w1⟩ := open_int Tryd.underlying60 (hval 1 60 v1 rfl rfl) h1
    have hb1 := bounds_u16 w1
    obtain ⟨n1, rfl⟩ := Int.eq_ofNat_of_zero_le hb1.1
    obtain ⟨a2, rfl, rfl, rfl, w2⟩ := open_int Tryd.underlying5 (hval 2 5 v2 rfl rfl) h2
    have hb2 := bounds_u8 w2
    obtain ⟨n2, rfl⟩ := Int.eq_ofNat_of_zero_le hb2.1
    obtain ⟨a3, rfl, rfl, rfl, w3⟩ := open_int Tryd.underlying5 (hval 3 5 v3 rfl rfl) h3
    have hb3 := bounds_u8 w3
    obtain ⟨n3, rfl⟩ := Int.eq_ofNat_of_zero_le hb3.1
    exact chainSteps_w k0 n1 n2 n3 W kl0 ks0 (by omega) (by omega) (by omega) ⟨ht, hw0⟩
theorem chainSteps_row : Rows.ChainStepsSaid :=
  OpenClaim.holds_of_wide 9 Tryd.f9 rfl rfl rfl rfl rfl rfl rfl ⟨rfl, rfl, rfl, rfl, rfl⟩ rfl rfl rfl rfl rfl (by kernel_rfl) Tryd.func9 (by kernel_rfl)
    (of_decide_eq_true (by kernel_rfl)) (by unfold Func.isWrapper; rw [if_neg (by decide +kernel)]; exact ⟨rfl, rfl⟩)
    (fun os started H enc _ => chainSteps_lifted os started H enc)
theorem chainSteps_holds : Rows.ChainStepsCardSaid :=
  Claim7.holds_tied_plain_at .later [] [.data] true (true, "00d67d0fc029d06f7e3b7889b7c42b3b29b437e5d7e6b60febe239e898a81daf") false
    chainSteps_row (fun _ h => by cases h) (by kernel_rfl) (fun _ h => by cases h) chainSteps_row_tie rfl ⟨rfl, rfl⟩ (by kernel_rfl) rfl
    (fun f fn hf hfn => by
      obtain rfl : f = 9 := Option.some.inj ((show Tryd.prog.funcNamed "quaestor/quaestorlaw20.ChainSteps" = some 9 by kernel_rfl).symm.trans hf) |>.symm
      obtain rfl : fn = Tryd.f9 := (Option.some.inj (Tryd.func9.symm.trans hfn)).symm
      exact ⟨by kernel_rfl, fun j t ht => by
        rw [Tryd.params9] at ht
        have hm : t ∈ [47, 60, 5, 5] := by simpa using Array.mem_of_getElem? ht
        have hall : ([47, 60, 5, 5].all fun u => !Tryd.prog.wantsStandIn u) = true := by kernel_rfl
        exact (show Tryd.prog.wantsStandIn t = false by simpa using List.all_eq_true.1 hall t hm)⟩)
    (by kernel_rfl)
#print axioms chainSteps_holds
end Go.Proofs.YthlmlmkabjppeaaDoor
