/- ChainGoes returns true for every chain and index, where the rounds are as the program lays them. -/
import Derived.Test.YthlmlmkabjppeaaDoorLiftL
import Derived.Test.YthlmlmkabjppeaaDoorOpM
import Derived.Test.YthlmlmkabjppeaaDoorCh4
import Derived.SevenTiedAt
import Derived.Test.YthlmlmkabjppeaaDoorTie
import Derived.Test.YthlmlmkabjppeaaDoorCards
namespace Go.Proofs.YthlmlmkabjppeaaDoor
open Go Go.ChangeShapes Go.WideShapes Go.ChangeAt Go.RowKit
set_option maxRecDepth 100000 in
theorem chainGoes_lifted (os : Os) (started : os.Started) (H : Type) (enc : TypeId × Value → H) :
    ReturnsInHanded {} Tryd.checked os 8 .any (fun w args => (Rows.chainGoesSpec.pre enc Tryd.prog Tryd.f8 [] false w args ∧ laidMetH Tryd.prog laidR w) ∧ sizedMet enc Tryd.prog Tryd.f8 (OpenSpec.ofChange Rows.chainGoesSpec) false w args) (Rows.chainGoesSpec.post enc Tryd.prog Tryd.f8 false true false false) := by
  refine liftL started _ rfl (by kernel_rfl) Tryd.func8 ⟨rfl, fun H ds h => ?_⟩ rfl (of_decide_eq_true (by kernel_rfl))
    (ChangeSpec.witness_shaped (enc := enc) (C := Tryd.checked) (os := os) (X := fun w _ => laidMetH Tryd.prog laidR w) false (World.doorLaid Tryd.prog 400 os) #[.agg (#[.int .u64 0] ++ Array.replicate 32 (.int .u8 0)), .int .u64 0] 8 rfl (World.shaped_of_RefB (by kernel_rfl) (by kernel_rfl)) (by kernel_rfl) (by kernel_rfl) (by kernel_rfl) (door_met os _)) ?_
  · match ds, h with
    | [_, _], _ => rfl
  · intro W base args ds ps ht hw0 hval hA hlt
    rw [Tryd.params8] at hA hval
    obtain ⟨v0, vs0, d0, ds0, p0, q0, hargs, rfl, rfl, h0, r0⟩ := trodAll_cons hA
    obtain ⟨v1, vs1, d1, ds1, p1, q1, rfl, rfl, rfl, h1, r1⟩ := trodAll_cons r0
    obtain ⟨rfl, rfl, rfl⟩ := trodAll_nil r1
    obtain rfl : args = #[v0, v1] := by cases args; simp_all
    obtain ⟨n0, k0, rfl, nl0, kl0, ks0⟩ := open_chain (hval 0 52 v0 rfl rfl) h0
    obtain ⟨a1, rfl, rfl, rfl, w1⟩ := open_int Tryd.underlying33 (hval 1 33 v1 rfl rfl) h1
    have hb1 := bounds_u64 w1
    obtain ⟨n1, rfl⟩ := Int.eq_ofNat_of_zero_le hb1.1
    exact chainGoes_w n0 k0 n1 W kl0 ks0 (by omega) (by omega) ⟨ht, hw0⟩
theorem chainGoes_row : Rows.ChainGoesSaid :=
  OpenClaim.holds_of_wide 8 Tryd.f8 rfl rfl rfl rfl rfl rfl rfl ⟨rfl, rfl, rfl, rfl, rfl⟩ rfl rfl rfl rfl rfl (by kernel_rfl) Tryd.func8 (by kernel_rfl)
    (of_decide_eq_true (by kernel_rfl)) (by unfold Func.isWrapper; rw [if_neg (by decide +kernel)]; exact ⟨rfl, rfl⟩)
    (fun os started H enc _ => chainGoes_lifted os started H enc)
theorem chainGoes_holds : Rows.ChainGoesCardSaid :=
  Claim7.holds_tied_plain_at .later [] [.data] true (true, "00d67d0fc029d06f7e3b7889b7c42b3b29b437e5d7e6b60febe239e898a81daf") false
    chainGoes_row (fun _ h => by cases h) (by kernel_rfl) (fun _ h => by cases h) chainGoes_row_tie rfl ⟨rfl, rfl⟩ (by kernel_rfl) rfl
    (fun f fn hf hfn => by
      obtain rfl : f = 8 := Option.some.inj ((show Tryd.prog.funcNamed "quaestor/quaestorlaw20.ChainGoes" = some 8 by kernel_rfl).symm.trans hf) |>.symm
      obtain rfl : fn = Tryd.f8 := (Option.some.inj (Tryd.func8.symm.trans hfn)).symm
      exact ⟨by kernel_rfl, fun j t ht => by
        rw [Tryd.params8] at ht
        have hm : t ∈ [52, 33] := by simpa using Array.mem_of_getElem? ht
        have hall : ([52, 33].all fun u => !Tryd.prog.wantsStandIn u) = true := by kernel_rfl
        exact (show Tryd.prog.wantsStandIn t = false by simpa using List.all_eq_true.1 hall t hm)⟩)
    (by kernel_rfl)
#print axioms chainGoes_holds
end Go.Proofs.YthlmlmkabjppeaaDoor
