/- Contract: the document's digits. -/
import Derived.Test.YtfblpkjablgafaaRp0
import Derived.Laws.MakeOwn
import Derived.IntWalk
namespace Go.Proofs.Ytfblpkjablgafaa
open Go.RowKit
set_option linter.unusedVariables false
set_option linter.unusedSimpArgs false
theorem u64Info : (Try.prog.info? 42).map (fun i => (i.zero, i.size, i.bytes)) = some (some (.int .u64 0), 1, 8) := by kernel_rfl
theorem made_q (n : Nat) : madeCells #[.int .u64 0] n = vq (List.replicate n 0) := by
  apply Array.toList_inj.1
  rw [toList_madeCells_one]
  simp [vq, q64]
theorem run_make_q (n : Nat) (hn : n ≤ 1000000) (w : World) :
    (Instr.makeSlice 40 (.int .i64 (n : Int)) (.int .i64 (n : Int))).run Try.prog w = .ok (.slice (some ⟨w.heap.size, 0, none⟩) n n) (w.alloc (.cells (vq (List.replicate n 0)) 42)) := by
  obtain ⟨i, hi, hz, h1, h2⟩ := info_parts u64Info
  have hr := run_make (P := Try.prog) w 40 42 i (.int .u64 0) Try.underlying40 hi hz .i64 .i64 (n : Int) (n : Int) (by omega) (by omega) (by rw [h2]; omega) (by omega)
  rw [h1] at hr
  simp only [Int.toNat_natCast] at hr
  rw [← made_q]
  simpa [Value.cells] using hr
theorem shl1 (k : Nat) (hk : k < 64) : IntKind.u64.wrap ((2 : Int) ^ k) = ((2 ^ k : Nat) : Int) := by
  have h : (2 : Nat) ^ k < 18446744073709551616 := Nat.lt_of_lt_of_le (Nat.pow_lt_pow_right (by decide) hk) (by decide)
  have e : ((2 : Int) ^ k) = ((2 ^ k : Nat) : Int) := by simp
  rw [e, wrap_lt _ h]
theorem tmod2 (e : Nat) : ((e : Nat) : Int).tmod 2 = ((e % 2 : Nat) : Int) := by rw [Int.tmod_eq_emod_of_nonneg (by omega)]; omega
structure DgSt (w wr : World) (N a : Nat) (L : List Nat) : Prop where
  dg : DgAt N a L
  at_ : Blk wr w.heap.size 42 (vq L)
  bel : Below w.heap.size w wr
set_option maxRecDepth 100000 in
set_option maxHeartbeats 8000000 in
theorem digits_c (B : Nat) (A : Option Addr) (ca : Nat) (l : List Nat) (w : World) (hr : Rd w B A (byt l)) (hB : B ≤ w.heap.size) (hl : ∀ c ∈ l, c < 256) (h17 : l.length ≤ 17) (h8 : number l < 2 ^ 143) :
    Calls Try.prog 18 #[.slice A l.length ca] w fun e w' => e = .returned (.slice (some ⟨w.heap.size, 0, none⟩) 11 11) ∧ Below w.heap.size w w' ∧ ∃ L, L.length = 11 ∧ (∀ j, L.getD j 0 < 8192) ∧ V13 L = number l ∧ Blk w' w.heap.size 42 (vq L) := by
  have HR := Lib.hid hr
  have HL := Lib.hid hl
  have HN := Lib.hid h8
  have hmk := run_make_q 11 (by decide) w
  rw [show ((11 : Nat) : Int) = 11 from rfl] at hmk
  clear hr hl h8
  go_enter Try.func18, Try.ntmps18
  go_wp2_with fail
  clear hmk
  have ST0 := Lib.hid (show DgSt w (w.alloc (Obj.cells (vq (List.replicate 11 0)) 42)) (number l) 0 (List.replicate 11 0) from ⟨⟨rfl, fun j => by rw [rep_at]; decide, by rw [V13_rep, Nat.pow_zero, Nat.mod_one]⟩, Blk.new _ _ _, (Below.refl _ _).alloc (Nat.le_refl _) _⟩)
  go_loopw [4] (fun i wr => ∃ (q : Nat) (L : List Nat), q ≤ l.length ∧ i = .int .i64 (q : Int) ∧ DgSt w wr (number l) (8 * q) L) (fun i _ => l.length - (intOf i).toNat)
  case atStart => exact ⟨0, _, by omega, rfl, ST0.out⟩
  case round =>
    rename World => wr
    obtain ⟨q, L, hq, rfl, hst⟩ := hrel
    have ST := Lib.hid hst
    clear hst ST0
    by_cases hlt : q < l.length
    · obtain ⟨ad, rfl, hab, hca⟩ := (HR.out.below (ST.out.bel.mono hB)).byte hlt
      have hc := getD_lt HL.out q
      have HBQ := Lib.hid (byte_of l HL.out q hlt)
      have p1 : (q : Int) < (l.length : Int) := by omega
      clear hca
      have HCQ := Lib.hid (show ∀ W, Below w.heap.size w W → W.cell? (ad.add q) = some (.int .u8 (l.getD q 0 : Nat)) from fun W hW => by
        obtain ⟨ad', e, _, h⟩ := (HR.out.below (hW.mono hB)).byte hlt
        injection e with e
        rw [e]; exact h)
      generalize l.getD q 0 = c at *
      go_wp2_with fail
      obtain ⟨wo, hwo⟩ : ∃ wo : World, wo = wr := ⟨_, rfl⟩
      rw [← hwo] at ST ⊢
      clear hwo
      go_loopw [5] (fun i wr => ∃ (k : Nat) (L : List Nat), k ≤ 8 ∧ i = .int .i64 (k : Int) ∧ DgSt w wr (number l) (8 * q + k) L) (fun i _ => 8 - (intOf i).toNat)
      case atStart => exact ⟨0, L, by omega, rfl, ST.out⟩
      case round =>
        rename World => wq
        obtain ⟨k, L, hk, rfl, hst⟩ := hrel
        clear ST
        have ST := Lib.hid hst
        clear hst
        by_cases hkl : k < 8
        · have hcell := HCQ.out wq ST.out.bel
          have p2 : (k : Int) < 8 := by omega
          have p3 : (0 : Int) ≤ (k : Int) := by omega
          have f1 := shl1 k (by omega)
          obtain ⟨s, hs⟩ : ∃ s, s = 2 ^ k := ⟨_, rfl⟩
          rw [← hs] at f1
          have hs0 : 0 < s := by rw [hs]; exact Nat.two_pow_pos _
          have HSK := Lib.hid hs
          have f2 := wrap_lt c (by omega)
          obtain ⟨b, hb⟩ : ∃ b, b = c / s % 2 := ⟨_, rfl⟩
          have f3 : IntKind.u64.wrap ((c : Int) / (s : Int)) = ((c / s : Nat) : Int) := by rw [ediv_nat, wrap_lt _ (Nat.lt_of_le_of_lt (Nat.div_le_self _ _) (by omega))]
          have f4 : (((c / s : Nat) : Int)).tmod 2 = (b : Int) := by rw [tmod2, ← hb]
          have hb2 : b ≤ 1 := by omega
          have HBB := Lib.hid (show b = number l / 2 ^ (8 * q + k) % 2 by rw [hb, HBQ.out, HSK.out]; exact bit_at _ _ _ hkl)
          generalize c / s = e at *
          obtain ⟨a, ha⟩ : ∃ a, a = 8 * q + k := ⟨_, rfl⟩
          have ea : 8 * (q : Int) + (k : Int) = (a : Int) := by omega
          have ha2 : a < 143 := by omega
          obtain ⟨d, hd⟩ : ∃ d, d = a / 13 := ⟨_, rfl⟩
          obtain ⟨m, hm⟩ : ∃ m, m = a % 13 := ⟨_, rfl⟩
          rw [← ha] at ST HBB
          have hdg := ST.out.dg.step ha2
          rw [← hd, ← hm, ← HBB.out] at hdg
          have HDG := Lib.hid hdg.1
          have hv := hdg.2
          have g1 : IntKind.i64.wrap ((a : Int) / 13) = (d : Int) := by rw [IntWalk.i64_in _ (by omega)]; omega
          have g2 : (a : Int).tmod 13 = (m : Int) := by rw [Int.tmod_eq_emod_of_nonneg (by omega)]; omega
          have hd2 : (d : Int) < 11 := by omega
          have h3 := shl1 m (by omega)
          obtain ⟨s2, hs2⟩ : ∃ s2, s2 = 2 ^ m := ⟨_, rfl⟩
          rw [← hs2] at h3 hv HDG
          have d0 := (ST.out.at_.cell d).trans (vq_at L d (by rw [ST.out.dg.len]; omega))
          have e0 := ST.out.at_.free d
          have hbs : b * s2 ≤ L.getD d 0 + b * s2 := by omega
          have h4 : IntKind.u64.wrap ((b : Int) * (s2 : Int)) = ((b * s2 : Nat) : Int) := by rw [← Int.natCast_mul, wrap_lt _ (by omega)]
          have h5 : IntKind.u64.wrap (((L.getD d 0 : Nat) : Int) + ((b * s2 : Nat) : Int)) = ((L.getD d 0 + b * s2 : Nat) : Int) := by rw [← Int.natCast_add, wrap_lt _ (by omega)]
          have HST := Lib.hid (show ∀ v : Nat, v = L.getD d 0 + b * s2 → ∀ n, DgSt w (((wq.drewN n).setCell ⟨w.heap.size, d, none⟩ (.int .u64 (v : Int))).drew) (number l) (a + 1) (L.set d v) from fun v hv n => ⟨hv ▸ HDG.out, by rw [← vq_set]; exact Blk.set_ (show Blk (wq.drewN n) _ _ _ from ST.out.at_) _ _, ((belowDrewN n ST.out.bel).setCell (Nat.le_refl _) _).drew⟩)
          have HA := Lib.hid ha
          have hm64 : (m : Int) < 64 := by omega
          obtain ⟨v, hvv⟩ : ∃ v, v = L.getD d 0 + b * s2 := ⟨_, rfl⟩
          rw [← hvv] at h5 hv
          have HW := Lib.hid (HST.out v hvv)
          clear hvv hdg HST hs2 hd hm ha hb hbs
          generalize b * s2 = bs at *
          generalize L.getD d 0 = o at *
          have hsz : ¬ (s : Int) = 0 := by omega
          have hsb : ((s : Int) == 0) = false := by simpa using hsz
          clear hs
          go_wp2_with fail
          go_quiet (fail)
          have d1 : (wq.drewN nq).cell? ⟨w.heap.size, d, none⟩ = some (.int .u64 (o : Int)) := d0
          have e1 : (wq.drewN nq).frozen? ⟨w.heap.size, d, none⟩ = false := e0
          have HW1 := Lib.hid (HW.out nq)
          clear d0 e0 HW hcell ST HDG
          generalize wq.drewN nq = wp at *
          go_wp2_with fail
          go_still_tail 15, (by kernel_rfl)
          go_wp2_with fail
          go_roundw
          case rel => exact ⟨k + 1, _, by omega, by go_num, by have := HW1.out; rw [HA.out] at this; exact this⟩
          case measure => simp [intOf]; omega
        · obtain rfl : k = 8 := by omega
          go_wp2_with fail
          go_roundw
          case rel => exact ⟨q + 1, L, by omega, by go_num, by rw [show 8 * (q + 1) = 8 * q + 8 by omega]; exact ST.out⟩
          case measure => simp [intOf]; omega
    · obtain rfl : q = l.length := by omega
      have HV := Lib.hid (show V13 L = number l by
        rw [ST.out.dg.val]
        have := number_lt l HL.out
        have e : (256 : Nat) ^ l.length = 2 ^ (8 * l.length) := by rw [Nat.pow_mul]
        rw [e] at this
        exact Nat.mod_eq_of_lt this)
      go_wp2_with fail
      go_ret
      exact ⟨rfl, ST.out.bel, L, ST.out.dg.len, ST.out.dg.lt, HV.out, ST.out.at_⟩
end Go.Proofs.Ytfblpkjablgafaa
