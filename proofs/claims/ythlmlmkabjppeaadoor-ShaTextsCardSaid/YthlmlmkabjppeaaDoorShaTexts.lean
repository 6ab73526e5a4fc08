/- ShaTexts returns true for all bytes and every text, where the rounds are as the program lays them. -/
import Derived.Test.YthlmlmkabjppeaaDoorLiftL
import Derived.Test.YthlmlmkabjppeaaDoorHx4
import Derived.SevenTiedAt
import Derived.Test.YthlmlmkabjppeaaDoorTie
import Derived.Test.YthlmlmkabjppeaaDoorCards
namespace Go.Proofs.YthlmlmkabjppeaaDoor
open Go Go.ChangeShapes Go.WideShapes Go.ChangeAt Go.RowKit
set_option maxRecDepth 100000 in
theorem shaTexts_lifted (os : Os) (started : os.Started) (H : Type) (enc : TypeId × Value → H) :
    ReturnsInHanded {} Tryd.checked os 6 .any (fun w args => (Rows.shaTextsSpec.pre enc Tryd.prog Tryd.f6 [] false w args ∧ laidMetH Tryd.prog laidR w) ∧ sizedMet enc Tryd.prog Tryd.f6 (OpenSpec.ofChange Rows.shaTextsSpec) false w args) (Rows.shaTextsSpec.post enc Tryd.prog Tryd.f6 false true false false) := by
  refine liftL started _ rfl (by kernel_rfl) Tryd.func6 ⟨rfl, fun H ds h => ?_⟩ rfl (of_decide_eq_true (by kernel_rfl))
    (ChangeSpec.witness_shaped (enc := enc) (C := Tryd.checked) (os := os) (X := fun w _ => laidMetH Tryd.prog laidR w) false (World.doorLaid Tryd.prog 400 os) #[.slice none 0 0, .string ByteArray.empty] 8 rfl (World.shaped_of_RefB (by kernel_rfl) (by kernel_rfl)) (by kernel_rfl) (by kernel_rfl) (by kernel_rfl) (door_met os _)) ?_
  · match ds, h with
    | [_, _], _ => rfl
  · intro W base args ds ps ht hw0 hval hA hlt
    rw [Tryd.params6] at hA hval
    obtain ⟨v0, vs0, d0, ds0, p0, q0, hargs, rfl, rfl, h0, r0⟩ := trodAll_cons hA
    obtain ⟨v1, vs1, d1, ds1, p1, q1, rfl, rfl, rfl, h1, r1⟩ := trodAll_cons r0
    obtain ⟨rfl, rfl, rfl⟩ := trodAll_nil r1
    obtain rfl : args = #[v0, v1] := by cases args; simp_all
    obtain ⟨A0, l0, cap0, rfl, hl0, hr0, hm0⟩ := open_bytes (hval 0 22 v0 rfl rfl) h0
    obtain ⟨s1, rfl, rfl, rfl, hs1⟩ := Go.ChangeMaps.open_string Tryd.underlying9 (hval 1 9 v1 rfl rfl) h1
    exact (by rw [← bstr_sbytes s1]; exact shaTexts_w A0 cap0 l0 (sbytes s1) W hl0 (sbytes_lt s1) hr0 ⟨ht, hw0⟩)
theorem shaTexts_row : Rows.ShaTextsSaid :=
  OpenClaim.holds_of_wide 6 Tryd.f6 rfl rfl rfl rfl rfl rfl rfl ⟨rfl, rfl, rfl, rfl, rfl⟩ rfl rfl rfl rfl rfl (by kernel_rfl) Tryd.func6 (by kernel_rfl)
    (of_decide_eq_true (by kernel_rfl)) (by unfold Func.isWrapper; rw [if_neg (by decide +kernel)]; exact ⟨rfl, rfl⟩)
    (fun os started H enc _ => shaTexts_lifted os started H enc)
theorem shaTexts_holds : Rows.ShaTextsCardSaid :=
  Claim7.holds_tied_plain_at .later [] [.data] true (true, "00d67d0fc029d06f7e3b7889b7c42b3b29b437e5d7e6b60febe239e898a81daf") false
    shaTexts_row (fun _ h => by cases h) (by kernel_rfl) (fun _ h => by cases h) shaTexts_row_tie rfl ⟨rfl, rfl⟩ (by kernel_rfl) rfl
    (fun f fn hf hfn => by
      obtain rfl : f = 6 := Option.some.inj ((show Tryd.prog.funcNamed "quaestor/quaestorlaw02.ShaTexts" = some 6 by kernel_rfl).symm.trans hf) |>.symm
      obtain rfl : fn = Tryd.f6 := (Option.some.inj (Tryd.func6.symm.trans hfn)).symm
      exact ⟨by kernel_rfl, fun j t ht => by
        rw [Tryd.params6] at ht
        have hm : t ∈ [22, 9] := by simpa using Array.mem_of_getElem? ht
        have hall : ([22, 9].all fun u => !Tryd.prog.wantsStandIn u) = true := by kernel_rfl
        exact (show Tryd.prog.wantsStandIn t = false by simpa using List.all_eq_true.1 hall t hm)⟩)
    (by kernel_rfl)
#print axioms shaTexts_holds
end Go.Proofs.YthlmlmkabjppeaaDoor
