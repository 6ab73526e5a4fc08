/- RingNodes returns true for any number of nodes, tenant, series and node, where the rounds are as the program lays them. -/
import Derived.Test.YtbgnjjbmidkhlaaDoorZ06
import Derived.Test.YtbgnjjbmidkhlaaDoorTie
import Derived.Test.YtbgnjjbmidkhlaaDoorCards
import Derived.SevenTiedAt
/- RingNodes, walked. -/
namespace Go.Proofs.YtbgnjjbmidkhlaaDoor
set_option linter.unusedVariables false
set_option linter.unusedSimpArgs false
set_option maxRecDepth 100000
open Go.RowKit
set_option linter.unusedVariables false
set_option linter.unusedSimpArgs false
theorem hasI_succ (o : List Nat) (k : Nat) (x : Int) (h : k < o.length) : hasI (o.take (k + 1)) x = (hasI (o.take k) x || decide (((o.getD k 0 : Nat) : Int) = x)) := by
  unfold hasI
  rw [List.take_add_one, List.getElem?_eq_getElem h, List.any_append, List.getD_eq_getElem?_getD, List.getElem?_eq_getElem h]
  simp
set_option maxRecDepth 100000 in
set_option maxHeartbeats 16000000 in
theorem ringNodes_c (n x : Int) (t s : List Nat) (w : World) (h0 : -9223372036854775808 ≤ n) (h1 : n ≤ 9223372036854775807) (ht : ∀ c ∈ t, c < 256) (hs : ∀ c ∈ s, c < 256) (hR : RoundsAt w) :
    Calls Tryd.prog 3 #[.int .i64 n, .string (bstr t), .string (bstr s), .int .i64 x] w (Yes w) := by
  have HRO := Lib.hid hR
  have hbt : (bstr t).size = t.length := bstr_size t
  have hbs : (bstr s).size = s.length := bstr_size s
  by_cases hq : n ≤ 8 ∧ t.length ≤ 100 ∧ s.length ≤ 100
  · obtain ⟨n8, tl, sl⟩ := hq
    obtain ⟨m, hm⟩ : ∃ m, m = n.toNat := ⟨_, rfl⟩
    have e1 : min n 32 = n := by omega
    have e2 : max 0 n = (m : Int) := by omega
    have e3 : max n 0 = (m : Int) := by omega
    have hm8 : m ≤ 32 := by omega
    have HNW := Lib.hid (new_c n n m w e1 e2 hm8 hR)
    have HNC := Lib.hid (fun (g : Nat) (L : List Pt) (v : Value) (W : World) (h1 : RAt W g L m v) (h2 : SortR L) (h3 : L.Perm (rawL m)) (h4 : RoundsAt W) => nodes_c g m L v t s W h1 h2 (perm_len h3 hm8) ht hs tl sl h4)
    have HRN := Lib.hid (fun W => rnodes_c m t s W hm8 ht hs tl sl)
    have q1 : ¬ (8 : Int) < n := by omega
    have q2 : ¬ (100 : Int) < ((bstr t).size : Int) := by omega
    have q3 : ¬ (100 : Int) < ((bstr s).size : Int) := by omega
    have q4 : ¬ 100 < (bstr t).size := by omega
    have q5 : ¬ 100 < (bstr s).size := by omega
    have HX := Lib.hid (atS_lt t s)
    clear hR ht hs hm tl sl hbt hbs hm8 e1 e2
    generalize bstr t = tv at *
    generalize bstr s = sv at *
    generalize atS t s = y at *
    go_enter Tryd.func3, Tryd.ntmps3
    go_upto_region 5 with (first
      | (go_at_call 6; (with_reducible refine HNW.out.mono ?_); rintro e W1 ⟨L, v, rfl, h1, h2, h3, h4⟩
         have HB1 := Lib.hid h4
         have HSR := Lib.hid h1
         have HPM := Lib.hid h2
         have HRA := Lib.hid h3
         have HEQ := Lib.hid (nodes_ref HX.out h1 h2)
         have HRN1 := Lib.hid (HRN.out W1)
         rw [HEQ.out] at HRN1
         clear h1 h2 h3 h4 HEQ)
      | (go_at_call 7; (with_reducible refine HRN1.out.mono ?_); rintro e W2 hk; obtain ⟨A, c, rfl, k1, k2, k3⟩ := hk; have HB2 := Lib.hid k3; have HA2 := Lib.hid k2; have HA1 := Lib.hid k1; clear k1 k2 k3))
    have hna := nodes_are (x := y) HPM.out
    have hol : (firsts 3 [] (rotL y L)).length ≤ 3 := by rw [hna.1]; exact Nat.min_le_left _ _
    have HRA2 := Lib.hid (HRA.out.next HB2.out)
    have HB := Lib.hid (HB1.out.trans (HB2.out.mono HB1.out.size))
    have HNC2 := Lib.hid (fun W (h : Below W2.heap.size W2 W) => HNC.out w.heap.size L v W (HRA2.out.next h) HSR.out HPM.out (HRO.out.next (HB.out.trans (h.mono HB.out.size))))
    clear hna HNW HRN HRN1 HNC HPM HSR HRA HB1 HB2
    generalize firsts 3 [] (rotL y L) = o at *
    have HOL := Lib.hid hol
    clear hol
    have hc9 : (o.length : Int) ≤ 3 := by have := HOL.out; omega
    go_wp2_with fail
    go_loopw [11, 12] (fun bv iv wr => ∃ (k : Nat) (b : Bool), k ≤ o.length ∧ iv = .int .i64 (k : Nat) ∧ bv = .bool b ∧ b = hasI (o.take k) x ∧ wr = W2) (fun _ iv _ => o.length - (intOf iv).toNat)
    case atStart => exact ⟨0, false, Nat.zero_le _, rfl, rfl, rfl, rfl⟩
    case round =>
      rename World => wr
      obtain ⟨k, b, hk, rfl, rfl, hbb, hwr⟩ := hrel
      obtain rfl := hwr.symm
      by_cases hlt : k < o.length
      · have r1 : (k : Int) < (o.length : Int) := by omega
        obtain ⟨ad, rfl, _, hat⟩ := HA2.out (by intro h0; have h1 : (its o).length = 0 := by { rw [h0]; rfl }; rw [its_len] at h1; omega)
        have c0 := hat k _ (its_at hlt)
        have hsu := hasI_succ o k x hlt
        rw [← hbb] at hsu
        have HSU := Lib.hid hsu
        have HLT := Lib.hid hlt
        clear hat hbb hsu hlt hk
        obtain ⟨z, hz⟩ : ∃ z : Int, z = ((o.getD k 0 : Nat) : Int) := ⟨_, rfl⟩
        rw [← hz] at c0 HSU
        clear hz
        cases b with
        | true =>
          go_wp2_with fail
          go_roundw
          case rel => exact ⟨k + 1, true, HLT.out, by go_num, rfl, by rw [HSU.out]; rfl, by first | rfl | trivial⟩
          case measure => have := HLT.out; simp [intOf]; omega
        | false =>
          by_cases hzx : z = x
          · subst hzx
            go_wp2_with fail
            go_roundw
            case rel => exact ⟨k + 1, true, HLT.out, by go_num, by first | rfl | simp, by rw [HSU.out]; simp, by first | rfl | trivial⟩
            case measure => have := HLT.out; simp [intOf]; omega
          · have s2 : (z == x) = false := by rw [beq_eq_false_iff_ne]; exact hzx
            have s3 : decide (z = x) = false := decide_eq_false hzx
            clear hzx
            go_wp2_with fail
            go_roundw
            case rel => exact ⟨k + 1, false, HLT.out, by go_num, by first | rfl | simp [s2, s3], by rw [HSU.out, s3]; rfl, by first | rfl | trivial⟩
            case measure => have := HLT.out; simp [intOf]; omega
      · obtain rfl : k = o.length := by omega
        have r1 : ¬ (o.length : Int) < (o.length : Int) := by omega
        rw [List.take_length] at hbb
        have HN3 := Lib.hid (HNC2.out W2 (Below.refl _ _))
        have HRA3 := Lib.hid HRA2.out
        have HHB := Lib.hid hbb.symm
        clear hbb hlt hk
        have HLE := Lib.hid (len_c w.heap.size m L v W2 HRA3.out)
        cases b <;>
        (go_wp2_with (first
           | (go_at_call 8; (with_reducible refine HLE.out.mono ?_); rintro e Y1 ⟨rfl, rfl⟩)
           | (go_at_call 10; (with_reducible refine HN3.out.mono ?_); rintro e Y2 hk; obtain ⟨A3, c3, rfl, k1, k2, k3⟩ := hk
              have HB3 := Lib.hid k3
              have HSA := Lib.hid (sameT_c A3 A c3 c o Y2 k2 ((Rd.below (show Rd W2 W2.heap.size A (its o) from HA2.out) k3).more k3.size) (by have := HOL.out; omega))
              clear k1 k2 k3)
           | (go_at_call 9; (with_reducible refine HSA.out.mono ?_); rintro e Y3 ⟨rfl, nn, hd⟩
              have hb3 : Below Y2.heap.size Y2 Y3 := by rw [hd]; exact belowDrewN nn (Below.refl _ _)
              have HB4 := Lib.hid (HB3.out.trans (hb3.mono HB3.out.size))
              have hhas := has_c (.pointer (some ⟨w.heap.size, 0, none⟩)) x (.string tv) (.string sv) o Y3 (by have := HOL.out; omega) (HNC2.out Y3 HB4.out)
              rw [HHB.out] at hhas
              have HHA := Lib.hid hhas
              clear hd hb3 hhas)
           | (go_at_call 11; (with_reducible refine HHA.out.mono ?_); rintro e Y4 ⟨rfl, hb5⟩; have HB5 := Lib.hid (HB.out.trans ((HB4.out.trans (hb5.mono HB4.out.size)).mono HB.out.size)); have HAW := Lib.hid (awake18_c Y4 (HRO.out.next HB5.out)); clear hb5)
           | (go_at_call 5; (with_reducible refine HAW.out.mono ?_); rintro e Y5 ⟨rfl, hb6⟩; have HB6 := Lib.hid (HB5.out.trans (hb6.mono HB5.out.size)); clear hb6))
         go_ret
         exact ⟨rfl, HB6.out⟩)
  · have HAW := Lib.hid (awake18_c w hR)
    clear hR ht hs
    generalize bstr t = tv at *
    generalize bstr s = sv at *
    rw [← hbt, ← hbs] at hq
    clear hbt hbs
    have h3 : (8 : Int) < n ∨ (¬ (8 : Int) < n ∧ (100 : Int) < (tv.size : Int)) ∨ (¬ (8 : Int) < n ∧ ¬ (100 : Int) < (tv.size : Int) ∧ (100 : Int) < (sv.size : Int)) := by omega
    clear hq
    rcases h3 with q1 | ⟨q1, q2⟩ | ⟨q1, q2, q3⟩
    · go_enter Tryd.func3, Tryd.ntmps3
      go_wp2_with (go_at_call 5; (with_reducible refine HAW.out.mono ?_); rintro e Y5 ⟨rfl, hb6⟩; have HB6 := Lib.hid hb6; clear hb6)
      go_ret
      exact ⟨rfl, HB6.out⟩
    · have q4 : 100 < tv.size := by omega
      go_enter Tryd.func3, Tryd.ntmps3
      go_wp2_with (go_at_call 5; (with_reducible refine HAW.out.mono ?_); rintro e Y5 ⟨rfl, hb6⟩; have HB6 := Lib.hid hb6; clear hb6)
      go_ret
      exact ⟨rfl, HB6.out⟩
    · have q4 : ¬ 100 < tv.size := by omega
      have q5 : 100 < sv.size := by omega
      go_enter Tryd.func3, Tryd.ntmps3
      go_wp2_with (go_at_call 5; (with_reducible refine HAW.out.mono ?_); rintro e Y5 ⟨rfl, hb6⟩; have HB6 := Lib.hid hb6; clear hb6)
      go_ret
      exact ⟨rfl, HB6.out⟩
end Go.Proofs.YtbgnjjbmidkhlaaDoor
namespace Go.Proofs.YtbgnjjbmidkhlaaDoor
set_option linter.unusedVariables false
set_option linter.unusedSimpArgs false
open Go Go.ChangeShapes Go.WideShapes Go.ChangeAt Go.RowKit
set_option maxRecDepth 100000 in
theorem ringNodes_lifted (os : Os) (started : os.Started) (H : Type) (enc : TypeId × Value → H) :
    ReturnsInHanded {} Tryd.checked os 3 .any (fun w args => (Rows.ringNodesSpec.pre enc Tryd.prog Tryd.f3 [] false w args ∧ laidMetH Tryd.prog laidR w) ∧ sizedMet enc Tryd.prog Tryd.f3 (OpenSpec.ofChange Rows.ringNodesSpec) false w args) (Rows.ringNodesSpec.post enc Tryd.prog Tryd.f3 false true false false) := by
  refine liftL started _ rfl (by kernel_rfl) Tryd.func3 ⟨rfl, fun H ds h => ?_⟩ rfl (of_decide_eq_true (by kernel_rfl))
    (ChangeSpec.witness_shaped (enc := enc) (C := Tryd.checked) (os := os) (X := fun w _ => laidMetH Tryd.prog laidR w) false (World.doorLaid Tryd.prog 400 os) #[.int .i64 0, .string ByteArray.empty, .string ByteArray.empty, .int .i64 0] 8 rfl (World.shaped_of_RefB (by kernel_rfl) (by kernel_rfl)) (by kernel_rfl) (by kernel_rfl) (by kernel_rfl) (door_met os _)) ?_
  · match ds, h with
    | [_, _, _, _], _ => rfl
  · intro W base args ds ps ht hw0 hval hA hlt
    rw [Tryd.params3] at hA hval
    obtain ⟨v0, vs0, d0, ds0, p0, q0, hargs, rfl, rfl, h0, r0⟩ := trodAll_cons hA
    obtain ⟨v1, vs1, d1, ds1, p1, q1, rfl, rfl, rfl, h1, r1⟩ := trodAll_cons r0
    obtain ⟨v2, vs2, d2, ds2, p2, q2, rfl, rfl, rfl, h2, r2⟩ := trodAll_cons r1
    obtain ⟨v3, vs3, d3, ds3, p3, q3, rfl, rfl, rfl, h3, r3⟩ := trodAll_cons r2
    obtain ⟨rfl, rfl, rfl⟩ := trodAll_nil r3
    obtain rfl : args = #[v0, v1, v2, v3] := by cases args; simp_all
    obtain ⟨a0, rfl, rfl, rfl, w0⟩ := open_int Tryd.underlying3 (hval 0 3 v0 rfl rfl) h0
    have hb0 := bounds_i64 w0
    obtain ⟨s1, rfl, rfl, rfl, hs1⟩ := Go.ChangeMaps.open_string Tryd.underlying9 (hval 1 9 v1 rfl rfl) h1
    obtain ⟨s2, rfl, rfl, rfl, hs2⟩ := Go.ChangeMaps.open_string Tryd.underlying9 (hval 2 9 v2 rfl rfl) h2
    obtain ⟨a3, rfl, rfl, rfl, w3⟩ := open_int Tryd.underlying3 (hval 3 3 v3 rfl rfl) h3
    have hb3 := bounds_i64 w3
    exact (by rw [← bstr_sbytes s1, ← bstr_sbytes s2]; exact ringNodes_c a0 a3 (sbytes s1) (sbytes s2) W (by omega) (by omega) (sbytes_lt s1) (sbytes_lt s2) ⟨ht, hw0⟩)
theorem ringNodes_row : Rows.RingNodesSaid :=
  OpenClaim.holds_of_wide 3 Tryd.f3 rfl rfl rfl rfl rfl rfl rfl ⟨rfl, rfl, rfl, rfl, rfl⟩ rfl rfl rfl rfl rfl (by kernel_rfl) Tryd.func3 (by kernel_rfl)
    (of_decide_eq_true (by kernel_rfl)) (by unfold Func.isWrapper; rw [if_neg (by decide +kernel)]; exact ⟨rfl, rfl⟩)
    (fun os started H enc _ => ringNodes_lifted os started H enc)
theorem ringNodes_holds : Rows.RingNodesCardSaid :=
  Claim7.holds_tied_plain_at .later [] [.data] true (true, "8e375b0f5c55a9fd9d8bee3e5958c05f8d1a64e1afac230cfa149e869d8f7fb2") false
    ringNodes_row (fun _ h => by cases h) (by kernel_rfl) (fun _ h => by cases h) ringNodes_row_tie rfl ⟨rfl, rfl⟩ (by kernel_rfl) rfl
    (fun f fn hf hfn => by
      obtain rfl : f = 3 := Option.some.inj ((show Tryd.prog.funcNamed "quaestor/quaestorlaw18.RingNodes" = some 3 by kernel_rfl).symm.trans hf) |>.symm
      obtain rfl : fn = Tryd.f3 := (Option.some.inj (Tryd.func3.symm.trans hfn)).symm
      exact ⟨by kernel_rfl, fun j t ht => by
        rw [Tryd.params3] at ht
        have hm : t ∈ [3, 9, 9, 3] := by simpa using Array.mem_of_getElem? ht
        have hall : ([3, 9, 9, 3].all fun u => !Tryd.prog.wantsStandIn u) = true := by kernel_rfl
        exact (show Tryd.prog.wantsStandIn t = false by simpa using List.all_eq_true.1 hall t hm)⟩)
    (by kernel_rfl)
#print axioms ringNodes_holds
end Go.Proofs.YtbgnjjbmidkhlaaDoor
