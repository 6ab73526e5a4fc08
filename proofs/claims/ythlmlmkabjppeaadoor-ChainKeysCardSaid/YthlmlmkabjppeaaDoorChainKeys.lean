/- ChainKeys returns true for every chain, all nodes and all boots, where the rounds are as the program lays them. -/
import Derived.Test.YthlmlmkabjppeaaDoorLiftL
import Derived.Test.YthlmlmkabjppeaaDoorOpM
import Derived.Test.YthlmlmkabjppeaaDoorCh9
import Derived.SevenTiedAt
import Derived.Test.YthlmlmkabjppeaaDoorTie
import Derived.Test.YthlmlmkabjppeaaDoorCards
namespace Go.Proofs.YthlmlmkabjppeaaDoor
open Go Go.ChangeShapes Go.WideShapes Go.ChangeAt Go.RowKit
set_option maxRecDepth 100000 in
theorem chainKeys_lifted (os : Os) (started : os.Started) (H : Type) (enc : TypeId × Value → H) :
    ReturnsInHanded {} Tryd.checked os 10 .any (fun w args => (Rows.chainKeysSpec.pre enc Tryd.prog Tryd.f10 [] false w args ∧ laidMetH Tryd.prog laidR w) ∧ sizedMet enc Tryd.prog Tryd.f10 (OpenSpec.ofChange Rows.chainKeysSpec) false w args) (Rows.chainKeysSpec.post enc Tryd.prog Tryd.f10 false true false false) := by
  refine liftL started _ rfl (by kernel_rfl) Tryd.func10 ⟨rfl, fun H ds h => ?_⟩ rfl (of_decide_eq_true (by kernel_rfl))
    (ChangeSpec.witness_shaped (enc := enc) (C := Tryd.checked) (os := os) (X := fun w _ => laidMetH Tryd.prog laidR w) false (World.doorLaid Tryd.prog 400 os) #[.agg (#[.int .u64 0] ++ Array.replicate 32 (.int .u8 0)), .int .u16 0, .int .u16 0, .int .u64 0, .int .u64 0] 8 rfl (World.shaped_of_RefB (by kernel_rfl) (by kernel_rfl)) (by kernel_rfl) (by kernel_rfl) (by kernel_rfl) (door_met os _)) ?_
  · match ds, h with
    | [_, _, _, _, _], _ => rfl
  · intro W base args ds ps ht hw0 hval hA hlt
    rw [Tryd.params10] at hA hval
    obtain ⟨v0, vs0, d0, ds0, p0, q0, hargs, rfl, rfl, h0, r0⟩ := trodAll_cons hA
    obtain ⟨v1, vs1, d1, ds1, p1, q1, rfl, rfl, rfl, h1, r1⟩ := trodAll_cons r0
    obtain ⟨v2, vs2, d2, ds2, p2, q2, rfl, rfl, rfl, h2, r2⟩ := trodAll_cons r1
    obtain ⟨v3, vs3, d3, ds3, p3, q3, rfl, rfl, rfl, h3, r3⟩ := trodAll_cons r2
    obtain ⟨v4, vs4, d4, ds4, p4, q4, rfl, rfl, rfl, h4, r4⟩ := trodAll_cons r3
    obtain ⟨rfl, rfl, rfl⟩ := trodAll_nil r4
    obtain rfl : args = #[v0, v1, v2, v3, v4] := by cases args; simp_all
    obtain ⟨n0, k0, rfl, nl0, kl0, ks0⟩ := open_chain (hval 0 52 v0 rfl rfl) h0
    obtain ⟨a1, rfl, rfl, rfl, w1⟩ := open_int Tryd.underlying60 (hval 1 60 v1 rfl rfl) h1
    have hb1 := bounds_u16 w1
    obtain ⟨n1, rfl⟩ := Int.eq_ofNat_of_zero_le hb1.1
    obtain ⟨a2, rfl, rfl, rfl, w2⟩ := open_int Tryd.underlying60 (hval 2 60 v2 rfl rfl) h2
    have hb2 := bounds_u16 w2
    obtain ⟨n2, rfl⟩ := Int.eq_ofNat_of_zero_le hb2.1
    obtain ⟨a3, rfl, rfl, rfl, w3⟩ := open_int Tryd.underlying33 (hval 3 33 v3 rfl rfl) h3
    have hb3 := bounds_u64 w3
    obtain ⟨n3, rfl⟩ := Int.eq_ofNat_of_zero_le hb3.1
    obtain ⟨a4, rfl, rfl, rfl, w4⟩ := open_int Tryd.underlying33 (hval 4 33 v4 rfl rfl) h4
    have hb4 := bounds_u64 w4
    obtain ⟨n4, rfl⟩ := Int.eq_ofNat_of_zero_le hb4.1
    exact chainKeys_w n0 k0 n1 n2 n3 n4 W kl0 ks0 (by omega) (by omega) (by omega) (by omega) (by omega) ⟨ht, hw0⟩
theorem chainKeys_row : Rows.ChainKeysSaid :=
  OpenClaim.holds_of_wide 10 Tryd.f10 rfl rfl rfl rfl rfl rfl rfl ⟨rfl, rfl, rfl, rfl, rfl⟩ rfl rfl rfl rfl rfl (by kernel_rfl) Tryd.func10 (by kernel_rfl)
    (of_decide_eq_true (by kernel_rfl)) (by unfold Func.isWrapper; rw [if_neg (by decide +kernel)]; exact ⟨rfl, rfl⟩)
    (fun os started H enc _ => chainKeys_lifted os started H enc)
theorem chainKeys_holds : Rows.ChainKeysCardSaid :=
  Claim7.holds_tied_plain_at .later [] [.data] true (true, "00d67d0fc029d06f7e3b7889b7c42b3b29b437e5d7e6b60febe239e898a81daf") false
    chainKeys_row (fun _ h => by cases h) (by kernel_rfl) (fun _ h => by cases h) chainKeys_row_tie rfl ⟨rfl, rfl⟩ (by kernel_rfl) rfl
    (fun f fn hf hfn => by
      obtain rfl : f = 10 := Option.some.inj ((show Tryd.prog.funcNamed "quaestor/quaestorlaw20.ChainKeys" = some 10 by kernel_rfl).symm.trans hf) |>.symm
      obtain rfl : fn = Tryd.f10 := (Option.some.inj (Tryd.func10.symm.trans hfn)).symm
      exact ⟨by kernel_rfl, fun j t ht => by
        rw [Tryd.params10] at ht
        have hm : t ∈ [52, 60, 60, 33, 33] := by simpa using Array.mem_of_getElem? ht
        have hall : ([52, 60, 60, 33, 33].all fun u => !Tryd.prog.wantsStandIn u) = true := by kernel_rfl
        exact (show Tryd.prog.wantsStandIn t = false by simpa using List.all_eq_true.1 hall t hm)⟩)
    (by kernel_rfl)
#print axioms chainKeys_holds
end Go.Proofs.YthlmlmkabjppeaaDoor
