/- HkdfMacs returns true for every key and message, where the rounds are as the program lays them. -/
import Derived.Test.YthlmlmkabjppeaaDoorLiftL
import Derived.Test.YthlmlmkabjppeaaDoorHm1
import Derived.SevenTiedAt
import Derived.Test.YthlmlmkabjppeaaDoorTie
import Derived.Test.YthlmlmkabjppeaaDoorCards
namespace Go.Proofs.YthlmlmkabjppeaaDoor
open Go Go.ChangeShapes Go.WideShapes Go.ChangeAt Go.RowKit
set_option maxRecDepth 100000 in
theorem hkdfMacs_lifted (os : Os) (started : os.Started) (H : Type) (enc : TypeId × Value → H) :
    ReturnsInHanded {} Tryd.checked os 3 .any (fun w args => (Rows.hkdfMacsSpec.pre enc Tryd.prog Tryd.f3 [] false w args ∧ laidMetH Tryd.prog laidR w) ∧ sizedMet enc Tryd.prog Tryd.f3 (OpenSpec.ofChange Rows.hkdfMacsSpec) false w args) (Rows.hkdfMacsSpec.post enc Tryd.prog Tryd.f3 false true false false) := by
  refine liftL started _ rfl (by kernel_rfl) Tryd.func3 ⟨rfl, fun H ds h => ?_⟩ rfl (of_decide_eq_true (by kernel_rfl))
    (ChangeSpec.witness_shaped (enc := enc) (C := Tryd.checked) (os := os) (X := fun w _ => laidMetH Tryd.prog laidR w) false (World.doorLaid Tryd.prog 400 os) #[.slice none 0 0, .slice none 0 0] 8 rfl (World.shaped_of_RefB (by kernel_rfl) (by kernel_rfl)) (by kernel_rfl) (by kernel_rfl) (by kernel_rfl) (door_met os _)) ?_
  · match ds, h with
    | [_, _], _ => rfl
  · intro W base args ds ps ht hw0 hval hA hlt
    rw [Tryd.params3] at hA hval
    obtain ⟨v0, vs0, d0, ds0, p0, q0, hargs, rfl, rfl, h0, r0⟩ := trodAll_cons hA
    obtain ⟨v1, vs1, d1, ds1, p1, q1, rfl, rfl, rfl, h1, r1⟩ := trodAll_cons r0
    obtain ⟨rfl, rfl, rfl⟩ := trodAll_nil r1
    obtain rfl : args = #[v0, v1] := by cases args; simp_all
    obtain ⟨A0, l0, cap0, rfl, hl0, hr0, hm0⟩ := open_bytes (hval 0 22 v0 rfl rfl) h0
    obtain ⟨A1, l1, cap1, rfl, hl1, hr1, hm1⟩ := open_bytes (hval 1 22 v1 rfl rfl) h1
    exact hkdfMacs_w A0 A1 cap0 cap1 l0 l1 W hl0 hl1 hr0 hr1 ⟨ht, hw0⟩
theorem hkdfMacs_row : Rows.HkdfMacsSaid :=
  OpenClaim.holds_of_wide 3 Tryd.f3 rfl rfl rfl rfl rfl rfl rfl ⟨rfl, rfl, rfl, rfl, rfl⟩ rfl rfl rfl rfl rfl (by kernel_rfl) Tryd.func3 (by kernel_rfl)
    (of_decide_eq_true (by kernel_rfl)) (by unfold Func.isWrapper; rw [if_neg (by decide +kernel)]; exact ⟨rfl, rfl⟩)
    (fun os started H enc _ => hkdfMacs_lifted os started H enc)
theorem hkdfMacs_holds : Rows.HkdfMacsCardSaid :=
  Claim7.holds_tied_plain_at .later [] [.data] true (true, "00d67d0fc029d06f7e3b7889b7c42b3b29b437e5d7e6b60febe239e898a81daf") false
    hkdfMacs_row (fun _ h => by cases h) (by kernel_rfl) (fun _ h => by cases h) hkdfMacs_row_tie rfl ⟨rfl, rfl⟩ (by kernel_rfl) rfl
    (fun f fn hf hfn => by
      obtain rfl : f = 3 := Option.some.inj ((show Tryd.prog.funcNamed "quaestor/quaestorlaw03.HkdfMacs" = some 3 by kernel_rfl).symm.trans hf) |>.symm
      obtain rfl : fn = Tryd.f3 := (Option.some.inj (Tryd.func3.symm.trans hfn)).symm
      exact ⟨by kernel_rfl, fun j t ht => by
        rw [Tryd.params3] at ht
        have hm : t ∈ [22, 22] := by simpa using Array.mem_of_getElem? ht
        have hall : ([22, 22].all fun u => !Tryd.prog.wantsStandIn u) = true := by kernel_rfl
        exact (show Tryd.prog.wantsStandIn t = false by simpa using List.all_eq_true.1 hall t hm)⟩)
    (by kernel_rfl)
#print axioms hkdfMacs_holds
end Go.Proofs.YthlmlmkabjppeaaDoor
