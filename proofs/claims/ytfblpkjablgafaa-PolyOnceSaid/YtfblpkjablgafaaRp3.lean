/- Contract: the document's 'even'. -/
import Derived.Test.YtfblpkjablgafaaRp2
import Derived.StillTailTactics
namespace Go.Proofs.Ytfblpkjablgafaa
open Go.RowKit
set_option linter.unusedVariables false
set_option linter.unusedSimpArgs false
structure EvSt (w wr : World) (A : Option Addr) (D O : List Nat) : Prop where
  at_ : Blk wr w.heap.size 42 (vq O)
  bel : Below w.heap.size w wr
theorem Rd.q {w : World} {B : Nat} {A : Option Addr} {l : List Nat} (h : Rd w B A (q64 l)) {k : Nat} (hk : k < l.length) :
    ∃ ad, A = some ad ∧ ad.block < B ∧ w.cell? (ad.add k) = some (.int .u64 (l.getD k 0 : Nat)) := by
  obtain ⟨ad, e, hb, hc⟩ := h (fun h0 => by have := q64_len l; rw [h0] at this; simp at this; omega)
  exact ⟨ad, e, hb, hc k _ (q64_at hk)⟩
theorem bool_and_t (b : Bool) (h : b = true) (x : Bool) : (b && x) = x := by rw [h]; rfl
set_option maxRecDepth 100000 in
set_option maxHeartbeats 16000000 in
theorem even_c (B : Nat) (A : Option Addr) (ca : Nat) (D : List Nat) (w : World) (hr : Rd w B A (q64 D)) (hB : B ≤ w.heap.size) (h10 : 10 ≤ D.length) (h20 : D.length ≤ 20) (hD : ∀ j, D.getD j 0 ≤ 1125899906842624) :
    Calls Try.prog 19 #[.slice A D.length ca] w fun e w' => e = .returned (.slice (some ⟨w.heap.size, 0, none⟩) 10 10) ∧ Below w.heap.size w w' ∧ ∃ L q, L.length = 10 ∧ (∀ j, L.getD j 0 < 8192) ∧ V13 D = V13 L + P130 * q ∧ Blk w' w.heap.size 42 (vq L) := by
  have HR := Lib.hid hr
  have HD := Lib.hid hD
  have hmk := run_make_q 10 (by decide) w
  rw [show ((10 : Nat) : Int) = 10 from rfl] at hmk
  clear hr hD
  go_enter Try.func19, Try.ntmps19
  go_wp2_with fail
  clear hmk
  have ST0 := Lib.hid (show Blk (w.alloc (Obj.cells (vq (List.replicate 10 0)) 42)) w.heap.size 42 (vq (List.replicate 10 0)) ∧ Below w.heap.size w (w.alloc (Obj.cells (vq (List.replicate 10 0)) 42)) from ⟨Blk.new _ _ _, (Below.refl _ _).alloc (Nat.le_refl _) _⟩)
  have EV0 := Lib.hid (EvA.zero D 1125899906842624)
  go_loopw [4] (fun i wr => ∃ (q : Nat) (O : List Nat), q ≤ D.length ∧ i = .int .i64 (q : Int) ∧ EvA D 1125899906842624 q O ∧ Blk wr w.heap.size 42 (vq O) ∧ Below w.heap.size w wr) (fun i _ => D.length - (intOf i).toNat)
  case atStart => exact ⟨0, _, by omega, rfl, EV0.out, ST0.out⟩
  case round =>
    rename World => wr
    obtain ⟨q, O, hq, rfl, hev, hat, hbel⟩ := hrel
    have EV := Lib.hid hev
    have AT := Lib.hid hat
    have BL := Lib.hid hbel
    clear hev hat hbel EV0 ST0
    by_cases hlt : q < D.length
    · obtain ⟨ad, rfl, hab, hca⟩ := (HR.out.below (BL.out.mono hB)).q hlt
      have p1 : (q : Int) < (D.length : Int) := by omega
      have hdq := HD.out q
      by_cases h9 : q < 10
      · have hob := EV.out.bnd q
        rw [if_neg (by omega), if_neg (by omega)] at hob
        have p2 : (q : Int) < 10 := by omega
        have d0 := (AT.out.cell q).trans (vq_at O q (by rw [EV.out.len]; exact h9))
        have e0 := AT.out.free q
        have HE := Lib.hid (EV.out.low h9 hlt hdq)
        have HS := Lib.hid (show ∀ v : Nat, Blk (wr.setCell ⟨w.heap.size, q, none⟩ (.int .u64 (v : Int))).drew w.heap.size 42 (vq (O.set q v)) ∧ Below w.heap.size w (wr.setCell ⟨w.heap.size, q, none⟩ (.int .u64 (v : Int))).drew from fun v => ⟨by rw [← vq_set]; exact AT.out.set_ _ _, (BL.out.setCell (Nat.le_refl _) _).drew⟩)
        have f1 : IntKind.u64.wrap (((O.getD q 0 : Nat) : Int) + ((D.getD q 0 : Nat) : Int)) = ((O.getD q 0 + D.getD q 0 : Nat) : Int) := by rw [← Int.natCast_add, wrap_lt _ (by omega)]
        obtain ⟨v, hv⟩ : ∃ v, v = O.getD q 0 + D.getD q 0 := ⟨_, rfl⟩
        rw [← hv] at f1 HE
        clear hv hdq hob
        generalize O.getD q 0 = o at *
        generalize D.getD q 0 = dq at *
        go_wp2_with fail
        go_still_tail 12, (by kernel_rfl)
        go_wp2_with fail
        go_roundw
        case rel => exact ⟨q + 1, _, by omega, by go_num, HE.out, HS.out v⟩
        case measure => simp [intOf]; omega
      · obtain ⟨r, hr⟩ : ∃ r, r = q - 10 := ⟨_, rfl⟩
        have hob := EV.out.bnd r
        rw [if_pos (by omega), if_neg (by omega)] at hob
        have p2 : ¬ (q : Int) < 10 := by omega
        have p3 : (r : Int) < 10 := by omega
        have d0 := (AT.out.cell r).trans (vq_at O r (by rw [EV.out.len]; omega))
        have e0 := AT.out.free r
        have HE := Lib.hid (EV.out.high (by omega) (by omega) hlt hdq)
        rw [← hr] at HE
        have HS := Lib.hid (show ∀ v : Nat, Blk (wr.setCell ⟨w.heap.size, r, none⟩ (.int .u64 (v : Int))).drew w.heap.size 42 (vq (O.set r v)) ∧ Below w.heap.size w (wr.setCell ⟨w.heap.size, r, none⟩ (.int .u64 (v : Int))).drew from fun v => ⟨by rw [← vq_set]; exact AT.out.set_ _ _, (BL.out.setCell (Nat.le_refl _) _).drew⟩)
        have f0 : IntKind.u64.wrap (5 * ((D.getD q 0 : Nat) : Int)) = ((5 * D.getD q 0 : Nat) : Int) := by
          rw [show (5 : Int) * ((D.getD q 0 : Nat) : Int) = ((5 * D.getD q 0 : Nat) : Int) by omega, wrap_lt _ (by omega)]
        have f1 : IntKind.u64.wrap (((O.getD r 0 : Nat) : Int) + ((5 * D.getD q 0 : Nat) : Int)) = ((O.getD r 0 + 5 * D.getD q 0 : Nat) : Int) := by rw [← Int.natCast_add, wrap_lt _ (by omega)]
        have g1 : (q : Int) - 10 = (r : Int) := by omega
        have g2 : IntKind.i64.wrap (r : Int) = (r : Int) := IntWalk.i64_in _ (by omega)
        obtain ⟨v, hv⟩ : ∃ v, v = O.getD r 0 + 5 * D.getD q 0 := ⟨_, rfl⟩
        rw [← hv] at f1 HE
        clear hv hdq hob hr
        generalize O.getD r 0 = o at *
        obtain ⟨d5, hd5⟩ : ∃ d5, d5 = 5 * D.getD q 0 := ⟨_, rfl⟩
        rw [← hd5] at f0 f1
        clear hd5
        generalize D.getD q 0 = dq at *
        go_wp2_with fail
        go_still_tail 14, (by kernel_rfl)
        go_wp2_with fail
        go_roundw
        case rel => exact ⟨q + 1, _, by omega, by go_num, HE.out, HS.out v⟩
        case measure => simp [intOf]; omega
    · obtain rfl : q = D.length := by omega
      have HV := Lib.hid (show ∃ t, V13 D = V13 O + P130 * t by
        have := EV.out.val
        rwa [List.take_length] at this)
      have HBD := Lib.hid (show ∀ j, O.getD j 0 ≤ 72057594037927936 from fun j => by
        have := EV.out.bnd j
        have a1 : (if j < D.length then 1125899906842624 else 0) ≤ 1125899906842624 := by split <;> omega
        have a2 : (if j + 10 < D.length then 5 * 1125899906842624 else 0) ≤ 5629499534213120 := by split <;> omega
        omega)
      have HLN := Lib.hid EV.out.len
      have p1 : ¬ (D.length : Int) < (D.length : Int) := by omega
      clear EV
      go_wp2_with fail
      clear HR HD
      go_loopw [5] (fun d wr => ∃ (O : List Nat), O.length = 10 ∧ (∀ j, O.getD j 0 ≤ 72057594037927936) ∧ (∃ t, V13 D = V13 O + P130 * t) ∧ Blk wr w.heap.size 42 (vq O) ∧ Below w.heap.size w wr) (fun _ wr => valQ wr w.heap.size)
      case atStart => exact ⟨O, HLN.out, HBD.out, HV.out, AT.out, BL.out⟩
      case round =>
        rename World => wo
        obtain ⟨O, hln, hbd, hv, hat, hbel⟩ := hrel
        clear HLN HBD HV AT BL
        have HLN := Lib.hid hln
        have HBD := Lib.hid hbd
        have HV := Lib.hid hv
        have AT := Lib.hid hat
        have BL := Lib.hid hbel
        have HVQ := Lib.hid (valQ_blk hat)
        have EC0 := Lib.hid (EvC.zero O hln)
        clear hln hbd hv hat hbel
        go_wp2_with fail
        go_loopw [6, 7] (fun c i wr => ∃ (k cc : Nat) (O' : List Nat), k ≤ 10 ∧ i = .int .i64 (k : Int) ∧ c = .int .u64 (cc : Int) ∧ EvC O k cc O' ∧ Blk wr w.heap.size 42 (vq O') ∧ Below w.heap.size w wr) (fun _ i _ => 10 - (intOf i).toNat)
        case atStart => exact ⟨0, 0, O, by omega, rfl, rfl, EC0.out, AT.out, BL.out⟩
        case round =>
          rename World => wr
          obtain ⟨k, c, O', hk, rfl, rfl, hec, hat, hbel⟩ := hrel
          have EC := Lib.hid hec
          have AT2 := Lib.hid hat
          have BL2 := Lib.hid hbel
          clear hec hat hbel
          by_cases hlt : k < 10
          · have p2 : (k : Int) < 10 := by omega
            have d0 := (AT2.out.cell k).trans (vq_at O' k (by rw [EC.out.len]; exact hlt))
            have e0 := AT2.out.free k
            have HE := Lib.hid (EC.out.step hlt HBD.out)
            have hcb := EC.out.cb
            have hob : O'.getD k 0 ≤ 72057594037927936 := by rw [EC.out.hi k (Nat.le_refl _)]; exact HBD.out k
            have f1 : IntKind.u64.wrap (((O'.getD k 0 : Nat) : Int) + (c : Int)) = ((O'.getD k 0 + c : Nat) : Int) := by rw [← Int.natCast_add, wrap_lt _ (by omega)]
            obtain ⟨x, hx⟩ : ∃ x, x = O'.getD k 0 + c := ⟨_, rfl⟩
            rw [← hx] at f1 HE
            have f2 : ((x : Nat) : Int) / 8192 = ((x / 8192 : Nat) : Int) := by omega
            have f3 : ((x : Nat) : Int) % 8192 = ((x % 8192 : Nat) : Int) := by omega
            have hxb : x < 100000000000000000 := by omega
            have HS := Lib.hid (show ∀ y z : Nat, Blk ((wr.setCell ⟨w.heap.size, k, none⟩ (.int .u64 (y : Int))).setCell ⟨w.heap.size, k, none⟩ (.int .u64 (z : Int))) w.heap.size 42 (vq (O'.set k z)) ∧ Below w.heap.size w ((wr.setCell ⟨w.heap.size, k, none⟩ (.int .u64 (y : Int))).setCell ⟨w.heap.size, k, none⟩ (.int .u64 (z : Int))) from fun y z => ⟨by
              have h1 := (AT2.out.set_ k (.int .u64 (y : Int))).set_ k (.int .u64 (z : Int))
              rw [vq_set, vq_set, List.set_set] at h1
              exact h1, (BL2.out.setCell (Nat.le_refl _) _).setCell (Nat.le_refl _) _⟩)
            clear hx hob
            generalize x / 8192 = c2 at *
            generalize x % 8192 = x2 at *
            generalize O'.getD k 0 = o at *
            go_wp2_with fail
            exact ⟨⟨k + 1, c2, _, by omega, by go_num, rfl, HE.out, HS.out x x2⟩, by simp [intOf]; omega⟩
          · obtain rfl : k = 10 := by omega
            have d0 := (AT2.out.cell 0).trans (vq_at O' 0 (by rw [EC.out.len]; decide))
            have e0 := AT2.out.free 0
            have hcb := EC.out.cb
            have hob := EC.out.lo 0 (by decide)
            have HEE := Lib.hid EC.out.end_
            have f0 : IntKind.u64.wrap (5 * (c : Int)) = ((5 * c : Nat) : Int) := by
              rw [show (5 : Int) * (c : Int) = ((5 * c : Nat) : Int) by omega, wrap_lt _ (by omega)]
            have f1 : IntKind.u64.wrap (((O'.getD 0 0 : Nat) : Int) + ((5 * c : Nat) : Int)) = ((O'.getD 0 0 + 5 * c : Nat) : Int) := by rw [← Int.natCast_add, wrap_lt _ (by omega)]
            obtain ⟨x, hx⟩ : ∃ x, x = O'.getD 0 0 + 5 * c := ⟨_, rfl⟩
            rw [← hx] at f1 HEE
            obtain ⟨O2, hO2⟩ : ∃ O2, O2 = O'.set 0 x := ⟨_, rfl⟩
            rw [← hO2] at HEE
            obtain ⟨wz, hwz⟩ : ∃ wz, wz = wr.setCell ⟨w.heap.size, 0, none⟩ (.int .u64 (x : Int)) := ⟨_, rfl⟩
            have AZ := Lib.hid (show Blk wz w.heap.size 42 (vq O2) by rw [hwz, hO2, ← vq_set]; exact AT2.out.set_ _ _)
            have BZ := Lib.hid (show Below w.heap.size w wz by rw [hwz]; exact BL2.out.setCell (Nat.le_refl _) _)
            have HWZ := Lib.hid hwz
            obtain ⟨c5, hc5⟩ : ∃ c5, c5 = 5 * c := ⟨_, rfl⟩
            rw [← hc5] at f0 f1
            clear hx hO2 hwz hob hc5 EC0
            generalize O'.getD 0 0 = o at *
            go_wp2_with fail
            rw [← HWZ.out]
            clear HWZ AT2 BL2 EC d0 e0
            go_loopw [5, 8] (fun d i wr => ∃ (k : Nat) (b : Bool), k ≤ 10 ∧ i = .int .i64 (k : Int) ∧ d = .bool b ∧ b = lowB O2 k ∧ wz = wr) (fun _ i _ => 10 - (intOf i).toNat)
            case atStart => exact ⟨0, true, by omega, rfl, rfl, rfl, rfl⟩
            case round =>
              obtain ⟨k, b, hk, rfl, rfl, hb, rfl⟩ := hrel
              have HB := Lib.hid hb
              clear hb
              by_cases hlt : k < 10
              · have p2 : (k : Int) < 10 := by omega
                have hl2 : k < O2.length := by rw [HEE.out.1]; exact hlt
                have d1 := (AZ.out.cell k).trans (vq_at O2 k hl2)
                have HLB := Lib.hid (lowB_succ O2 k)
                cases b with
                | false =>
                  clear d1 hl2
                  go_wp2_with fail
                  exact ⟨⟨k + 1, false, by omega, by go_num, rfl, by rw [HLB.out, ← HB.out]; rfl, by first | rfl | trivial⟩, by simp [intOf]; omega⟩
                | true =>
                  by_cases h8 : O2.getD k 0 < 8192
                  · have HDT := Lib.hid (show decide (O2.getD k 0 < 8192) = true from decide_eq_true h8)
                    have t1 : ((O2.getD k 0 : Nat) : Int) < 8192 := by omega
                    clear hl2
                    go_wp2_with fail
                    exact ⟨⟨k + 1, true, by omega, by go_num, by rw [← List.getD_eq_getElem?_getD]; congr 1; exact decide_eq_true t1, by rw [HLB.out, ← HB.out, HDT.out]; rfl, by first | rfl | trivial⟩, by simp [intOf]; omega⟩
                  · have HDT := Lib.hid (show decide (O2.getD k 0 < 8192) = false from decide_eq_false h8)
                    have t1 : ¬ ((O2.getD k 0 : Nat) : Int) < 8192 := by omega
                    clear hl2
                    go_wp2_with fail
                    exact ⟨⟨k + 1, false, by omega, by go_num, by rw [← List.getD_eq_getElem?_getD]; congr 1; exact decide_eq_false t1, by rw [HLB.out, ← HB.out, HDT.out]; rfl, by first | rfl | trivial⟩, by simp [intOf]; omega⟩
              · obtain rfl : k = 10 := by omega
                cases b with
                | false =>
                  have HC := Lib.hid (show c ≠ 0 from fun h0 => by
                    have h1 := HEE.out.2.2.2 h0
                    have h2 := (lowB_all O2 10).2 (fun j _ => h1 j)
                    rw [h2] at HB
                    cases HB.out)
                  go_wp2_with fail
                  have hv2 := HEE.out.2.2.1
                  refine ⟨⟨O2, HEE.out.1, HEE.out.2.1, ?_, AZ.out, BZ.out⟩, ?_⟩
                  · obtain ⟨t, ht⟩ := HV.out
                    exact ⟨c + t, by rw [Nat.mul_add]; omega⟩
                  · rw [valQ_blk AZ.out, HVQ.out]
                    have : P130 * 1 ≤ P130 * c := Nat.mul_le_mul_left _ (Nat.pos_of_ne_zero HC.out)
                    have hp : 0 < P130 := by decide
                    omega
                | true =>
                  have HLO := Lib.hid (show ∀ j, O2.getD j 0 < 8192 from fun j => by
                    rcases Nat.lt_or_ge j 10 with h | h
                    · exact (lowB_all O2 10).1 HB.out.symm j h
                    · rw [List.getD_eq_getElem?_getD, List.getElem?_eq_none (by rw [HEE.out.1]; exact h)]; decide)
                  go_wp2_with fail
                  go_ret
                  have hv2 := HEE.out.2.2.1
                  obtain ⟨t, ht⟩ := HV.out
                  exact ⟨rfl, BZ.out, O2, c + t, HEE.out.1, HLO.out, by rw [Nat.mul_add]; omega, AZ.out⟩
end Go.Proofs.Ytfblpkjablgafaa
