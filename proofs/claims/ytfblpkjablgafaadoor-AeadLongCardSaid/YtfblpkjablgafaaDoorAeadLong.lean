/- AeadLong returns true for all keys, nonces, lengths, where the quarters are as the program lays them. -/
import Derived.Test.YtfblpkjablgafaaDoorOpQ
import Derived.Test.YtfblpkjablgafaaDoorLiftQ
import Derived.Test.YtfblpkjablgafaaDoorLw3
import Derived.SevenTiedAt
import Derived.Test.YtfblpkjablgafaaDoorTie
import Derived.Test.YtfblpkjablgafaaDoorCards
namespace Go.Proofs.YtfblpkjablgafaaDoor
open Go Go.ChangeShapes Go.WideShapes Go.ChangeAt Go.RowKit
set_option maxRecDepth 100000 in
theorem aeadLong_lifted (os : Os) (started : os.Started) (H : Type) (enc : TypeId × Value → H) :
    ReturnsInHanded {} Tryd.checked os 5 .any (fun w args => (Rows.aeadLongSpec.pre enc Tryd.prog Tryd.f5 [] false w args ∧ laidMetH Tryd.prog laidQ w) ∧ sizedMet enc Tryd.prog Tryd.f5 (OpenSpec.ofChange Rows.aeadLongSpec) false w args) (Rows.aeadLongSpec.post enc Tryd.prog Tryd.f5 false true false false) := by
  refine liftQ started _ rfl (by kernel_rfl) Tryd.func5 ⟨rfl, fun H ds h => ?_⟩ rfl (of_decide_eq_true (by kernel_rfl))
    (ChangeSpec.witness_shaped (enc := enc) (C := Tryd.checked) (os := os) (X := fun w _ => laidMetH Tryd.prog laidQ w) false (World.doorLaid Tryd.prog 400 os) #[.agg (Array.replicate 32 (.int .u8 0)), .agg (Array.replicate 12 (.int .u8 0)), .int .u8 0] 8 rfl (World.shaped_of_RefB (by kernel_rfl) (by kernel_rfl)) (by kernel_rfl) (by kernel_rfl) (by kernel_rfl) (door_met os _)) ?_
  · match ds, h with
    | [_, _, _], _ => rfl
  · intro W base args ds ps hq hval hA hlt
    rw [Tryd.params5] at hA hval
    obtain ⟨v0, vs0, d0, ds0, p0, q0, hargs, rfl, rfl, h0, r0⟩ := trodAll_cons hA
    obtain ⟨v1, vs1, d1, ds1, p1, q1, rfl, rfl, rfl, h1, r1⟩ := trodAll_cons r0
    obtain ⟨v2, vs2, d2, ds2, p2, q2, rfl, rfl, rfl, h2, r2⟩ := trodAll_cons r1
    obtain ⟨rfl, rfl, rfl⟩ := trodAll_nil r2
    obtain rfl : args = #[v0, v1, v2] := by cases args; simp_all
    obtain ⟨k0, rfl, kl0, ks0⟩ := open_key (hval 0 23 v0 rfl rfl) h0
    obtain ⟨k1, rfl, kl1, ks1⟩ := open_nonce (hval 1 25 v1 rfl rfl) h1
    obtain ⟨a2, rfl, rfl, rfl, w2⟩ := open_int Tryd.underlying5 (hval 2 5 v2 rfl rfl) h2
    have hb2 := bounds_u8 w2
    obtain ⟨n2, rfl⟩ := Int.eq_ofNat_of_zero_le hb2.1
    exact aeadLong_w k0 k1 n2 W kl0 kl1 (by omega) hq
theorem aeadLong_row : Rows.AeadLongSaid :=
  OpenClaim.holds_of_wide 5 Tryd.f5 rfl rfl rfl rfl rfl rfl rfl ⟨rfl, rfl, rfl, rfl, rfl⟩ rfl rfl rfl rfl rfl (by kernel_rfl) Tryd.func5 (by kernel_rfl)
    (of_decide_eq_true (by kernel_rfl)) (by unfold Func.isWrapper; rw [if_neg (by decide +kernel)]; exact ⟨rfl, rfl⟩)
    (fun os started H enc _ => aeadLong_lifted os started H enc)
theorem aeadLong_holds : Rows.AeadLongCardSaid :=
  Claim7.holds_tied_plain_at .later [] [.data] true (true, "c8c563eee161481024cc70d1bb5225e32c620319a4b4011eba73a17cd20d8491") false
    aeadLong_row (fun _ h => by cases h) (by kernel_rfl) (fun _ h => by cases h) aeadLong_row_tie rfl ⟨rfl, rfl⟩ (by kernel_rfl) rfl
    (fun f fn hf hfn => by
      obtain rfl : f = 5 := Option.some.inj ((show Tryd.prog.funcNamed "quaestor/quaestorlaw06.AeadLong" = some 5 by kernel_rfl).symm.trans hf) |>.symm
      obtain rfl : fn = Tryd.f5 := (Option.some.inj (Tryd.func5.symm.trans hfn)).symm
      exact ⟨by kernel_rfl, fun j t ht => by
        rw [Tryd.params5] at ht
        have hm : t ∈ [23, 25, 5] := by simpa using Array.mem_of_getElem? ht
        have hall : ([23, 25, 5].all fun u => !Tryd.prog.wantsStandIn u) = true := by kernel_rfl
        exact (show Tryd.prog.wantsStandIn t = false by simpa using List.all_eq_true.1 hall t hm)⟩)
    (by kernel_rfl)
#print axioms aeadLong_holds
end Go.Proofs.YtfblpkjablgafaaDoor
