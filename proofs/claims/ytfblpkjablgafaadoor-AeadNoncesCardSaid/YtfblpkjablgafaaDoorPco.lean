/- Contracts: a tag of parts that lie in a row of their own; whether rows are the same. -/
import Derived.Test.YtfblpkjablgafaaDoorTg1
import Derived.Laws.BitsAllLaws
namespace Go.Proofs.YtfblpkjablgafaaDoor
open Go.RowKit
set_option linter.unusedVariables false
set_option linter.unusedSimpArgs false
theorem xor_zero (a b : Nat) : a ^^^ b = 0 ↔ a = b := by
  constructor
  · intro h
    have h1 : a = (a ^^^ b) ^^^ b := by rw [Nat.xor_assoc, Nat.xor_self, Nat.xor_zero]
    rw [h, Nat.zero_xor] at h1
    exact h1
  · rintro rfl
    exact Nat.xor_self _
set_option maxRecDepth 100000 in
set_option maxHeartbeats 1000000 in
theorem psame_c (B C : Nat) (A D : Option Addr) (ca cb : Nat) (l m : List Nat) (w : World) (hl : ∀ c ∈ l, c < 256) (hm : ∀ c ∈ m, c < 256) (hr : Rd w B A (byt l)) (hs : Rd w C D (byt m)) (h1 : l.length ≤ 1000000000) (_h2 : m.length ≤ 1000000000) :
    Calls Tryd.prog 20 #[.slice A l.length ca, .slice D m.length cb] w fun e w' => e = .returned (.bool (l == m)) ∧ w = w' := by
  have HL := Lib.hid hl
  have HM := Lib.hid hm
  have HR := Lib.hid hr
  have HS := Lib.hid hs
  clear hl hm hr hs
  by_cases hlen : l.length = m.length
  · have HN := Lib.hid hlen
    rw [← hlen]
    have h3 : l.length ≤ m.length := by omega
    have t0 : (((l.length : Nat) : Int) != (l.length : Int)) = false := by simp
    clear hlen _h2
    go_enter Tryd.func20, Tryd.ntmps20
    go_wp2
    go_loop [5, 15] (fun d i => ∃ k q : Nat, k ≤ l.length ∧ i = .int .i64 k ∧ d = .int .u8 (q : Nat) ∧ q < 256 ∧ (q = 0 ↔ l.take k = m.take k)) (fun _ i => l.length - (intOf i).toNat)
    case atStart => exact ⟨0, 0, Nat.zero_le _, rfl, rfl, by decide, by simp⟩
    case round =>
      obtain ⟨k, q, hk, rfl, rfl, hq, ht⟩ := hrel
      have HT := Lib.hid ht
      clear ht
      by_cases hlt : k < l.length
      · obtain ⟨ad, rfl, hab, hca⟩ := HR.out.byte hlt
        obtain ⟨ad2, rfl, hab2, hcb⟩ := HS.out.byte (show k < m.length by omega)
        have HST := Lib.hid (take_succ_eq hlt (show k < m.length by omega))
        have hx := getD_lt HL.out k
        have hy := getD_lt HM.out k
        generalize l.getD k 0 = x at *
        generalize m.getD k 0 = y at *
        have hi1 : (k : Int) < (l.length : Int) := by omega
        have f1 := u8_xor_nat x y hx hy
        have hz : x ^^^ y < 256 := Nat.xor_lt_two_pow (n := 8) hx hy
        have HZ := Lib.hid (xor_zero x y)
        obtain ⟨z, hz2⟩ : ∃ z, z = x ^^^ y := ⟨_, rfl⟩
        rw [← hz2] at f1 hz HZ
        clear hz2
        have f2 := u8_or_nat q z hq hz
        have hv : q ||| z < 256 := Nat.or_lt_two_pow (n := 8) hq hz
        have HV := Lib.hid (show q ||| z = 0 ↔ q = 0 ∧ z = 0 from Nat.or_eq_zero_iff)
        obtain ⟨v, hv2⟩ : ∃ v, v = q ||| z := ⟨_, rfl⟩
        rw [← hv2] at f2 hv HV
        clear hv2
        go_wp2
        go_round
        case rel => exact ⟨k + 1, v, by omega, by go_num, rfl, hv, by rw [HV.out, HZ.out, HST.out, HT.out]⟩
        case measure => simp [intOf]; omega
      · obtain rfl : k = l.length := by omega
        have HE := Lib.hid (show (q = 0) ↔ l = m by
          have := HT.out
          rw [List.take_length, HN.out, List.take_length] at this
          exact this)
        by_cases h0 : q = 0
        · have e := Lib.hid (show (l == m) = true by simpa using HE.out.1 h0)
          subst h0
          go_wp2
          go_ret
          exact ⟨by rw [e.out]; rfl, rfl⟩
        · have e := Lib.hid (show (l == m) = false by
            have : l ≠ m := fun h => h0 (HE.out.2 h)
            simpa using this)
          have t1 : ((q : Int) == 0) = false := by simpa using h0
          clear h0
          go_wp2
          go_ret
          exact ⟨by rw [e.out]; rfl, rfl⟩
  · have hne : l ≠ m := fun h => hlen (by rw [h])
    have e : (l == m) = false := by simpa using hne
    rw [e]
    have t1 : (((l.length : Nat) : Int) != (m.length : Int)) = true := by rw [bne_iff_ne]; omega
    clear hlen hne e
    go_enter Tryd.func20, Tryd.ntmps20
    go_wp2
    go_ret
    exact ⟨rfl, rfl⟩
def zKey : Array Value := vb (List.replicate 32 0)
theorem zero_key (w : World) : (zeroValue 23).run Tryd.prog w = .ok (.agg zKey) w := by kernel_rfl
theorem keySz {L : List Nat} (h : L.length = 32) : (Tryd.prog.info? 23).map (·.size) = some (vb L).size := by rw [vb_size, h]; kernel_rfl
theorem keyLn {L : List Nat} (h : L.length = 32) : (Tryd.prog.info? 23).map (·.size) = some (byt L).length := by rw [byt_len, h]; kernel_rfl
/-- a tag of parts that lie in a row of their own -/
theorem tag_parts (k m : List Nat) (ps : List Part) (u : Value) (base : Nat) (w : World) (hk : k.length = 32) (hl : ∀ c ∈ k, c < 256) (hm : ∀ c ∈ m, c < 256) (hml : m.length ≤ 10000) (he : cat ps ps.length = m) (hn : ps.length ≤ 1000)
    (ha : ArrAt w u base ps) (hr : ∀ p ∈ ps, Rd w w.heap.size p.1 (byt p.2.2)) :
    Calls Tryd.prog 28 #[.agg (vb k), u] w fun e w' => e = .returned (.agg (vb (polT k m))) ∧ Below w.heap.size w w' := by
  obtain ⟨g, rfl, hg, hb⟩ := ha
  refine tag_c k m _ w hk hl hm hml fun W hW => ?_
  have h := concatN_c g ps.length ps.length ps W rfl (fun i hi => by
    refine (hW.cell (p := ⟨g, i, none⟩) hb.lt).trans ?_
    rw [hb.cell i]
    simp [hi]) (Nat.lt_of_lt_of_le hb.lt hW.size) (fun p hp => ((hr p hp).below hW).more hW.size) (by rw [he]; omega) hn (Nat.le_refl _)
  rw [he] at h
  exact h
end Go.Proofs.YtfblpkjablgafaaDoor
