/- AeadNonces returns true for all nodes and counts, where the quarters are as the program lays them. -/
import Derived.Test.YtfblpkjablgafaaDoorOpQ
import Derived.Test.YtfblpkjablgafaaDoorLiftQ
import Derived.Test.YtfblpkjablgafaaDoorLw4
import Derived.SevenTiedAt
import Derived.Test.YtfblpkjablgafaaDoorTie
import Derived.Test.YtfblpkjablgafaaDoorCards
namespace Go.Proofs.YtfblpkjablgafaaDoor
open Go Go.ChangeShapes Go.WideShapes Go.ChangeAt Go.RowKit
set_option maxRecDepth 100000 in
theorem aeadNonces_lifted (os : Os) (started : os.Started) (H : Type) (enc : TypeId × Value → H) :
    ReturnsInHanded {} Tryd.checked os 6 .any (fun w args => (Rows.aeadNoncesSpec.pre enc Tryd.prog Tryd.f6 [] false w args ∧ laidMetH Tryd.prog laidQ w) ∧ sizedMet enc Tryd.prog Tryd.f6 (OpenSpec.ofChange Rows.aeadNoncesSpec) false w args) (Rows.aeadNoncesSpec.post enc Tryd.prog Tryd.f6 false true false false) := by
  refine liftQ started _ rfl (by kernel_rfl) Tryd.func6 ⟨rfl, fun H ds h => ?_⟩ rfl (of_decide_eq_true (by kernel_rfl))
    (ChangeSpec.witness_shaped (enc := enc) (C := Tryd.checked) (os := os) (X := fun w _ => laidMetH Tryd.prog laidQ w) false (World.doorLaid Tryd.prog 400 os) #[.int .u16 0, .int .u16 0, .int .u64 0, .int .u64 0] 8 rfl (World.shaped_of_RefB (by kernel_rfl) (by kernel_rfl)) (by kernel_rfl) (by kernel_rfl) (by kernel_rfl) (door_met os _)) ?_
  · match ds, h with
    | [_, _, _, _], _ => rfl
  · intro W base args ds ps hq hval hA hlt
    rw [Tryd.params6] at hA hval
    obtain ⟨v0, vs0, d0, ds0, p0, q0, hargs, rfl, rfl, h0, r0⟩ := trodAll_cons hA
    obtain ⟨v1, vs1, d1, ds1, p1, q1, rfl, rfl, rfl, h1, r1⟩ := trodAll_cons r0
    obtain ⟨v2, vs2, d2, ds2, p2, q2, rfl, rfl, rfl, h2, r2⟩ := trodAll_cons r1
    obtain ⟨v3, vs3, d3, ds3, p3, q3, rfl, rfl, rfl, h3, r3⟩ := trodAll_cons r2
    obtain ⟨rfl, rfl, rfl⟩ := trodAll_nil r3
    obtain rfl : args = #[v0, v1, v2, v3] := by cases args; simp_all
    obtain ⟨a0, rfl, rfl, rfl, w0⟩ := open_int Tryd.underlying38 (hval 0 38 v0 rfl rfl) h0
    have hb0 := bounds_u16 w0
    obtain ⟨n0, rfl⟩ := Int.eq_ofNat_of_zero_le hb0.1
    obtain ⟨a1, rfl, rfl, rfl, w1⟩ := open_int Tryd.underlying38 (hval 1 38 v1 rfl rfl) h1
    have hb1 := bounds_u16 w1
    obtain ⟨n1, rfl⟩ := Int.eq_ofNat_of_zero_le hb1.1
    obtain ⟨a2, rfl, rfl, rfl, w2⟩ := open_int Tryd.underlying39 (hval 2 39 v2 rfl rfl) h2
    have hb2 := bounds_u64 w2
    obtain ⟨n2, rfl⟩ := Int.eq_ofNat_of_zero_le hb2.1
    obtain ⟨a3, rfl, rfl, rfl, w3⟩ := open_int Tryd.underlying39 (hval 3 39 v3 rfl rfl) h3
    have hb3 := bounds_u64 w3
    obtain ⟨n3, rfl⟩ := Int.eq_ofNat_of_zero_le hb3.1
    exact aeadNonces_w n0 n1 n2 n3 W (by omega) (by omega) (by omega) (by omega) hq
theorem aeadNonces_row : Rows.AeadNoncesSaid :=
  OpenClaim.holds_of_wide 6 Tryd.f6 rfl rfl rfl rfl rfl rfl rfl ⟨rfl, rfl, rfl, rfl, rfl⟩ rfl rfl rfl rfl rfl (by kernel_rfl) Tryd.func6 (by kernel_rfl)
    (of_decide_eq_true (by kernel_rfl)) (by unfold Func.isWrapper; rw [if_neg (by decide +kernel)]; exact ⟨rfl, rfl⟩)
    (fun os started H enc _ => aeadNonces_lifted os started H enc)
theorem aeadNonces_holds : Rows.AeadNoncesCardSaid :=
  Claim7.holds_tied_plain_at .later [] [.data] true (true, "c8c563eee161481024cc70d1bb5225e32c620319a4b4011eba73a17cd20d8491") false
    aeadNonces_row (fun _ h => by cases h) (by kernel_rfl) (fun _ h => by cases h) aeadNonces_row_tie rfl ⟨rfl, rfl⟩ (by kernel_rfl) rfl
    (fun f fn hf hfn => by
      obtain rfl : f = 6 := Option.some.inj ((show Tryd.prog.funcNamed "quaestor/quaestorlaw06.AeadNonces" = some 6 by kernel_rfl).symm.trans hf) |>.symm
      obtain rfl : fn = Tryd.f6 := (Option.some.inj (Tryd.func6.symm.trans hfn)).symm
      exact ⟨by kernel_rfl, fun j t ht => by
        rw [Tryd.params6] at ht
        have hm : t ∈ [38, 38, 39, 39] := by simpa using Array.mem_of_getElem? ht
        have hall : ([38, 38, 39, 39].all fun u => !Tryd.prog.wantsStandIn u) = true := by kernel_rfl
        exact (show Tryd.prog.wantsStandIn t = false by simpa using List.all_eq_true.1 hall t hm)⟩)
    (by kernel_rfl)
#print axioms aeadNonces_holds
end Go.Proofs.YtfblpkjablgafaaDoor
