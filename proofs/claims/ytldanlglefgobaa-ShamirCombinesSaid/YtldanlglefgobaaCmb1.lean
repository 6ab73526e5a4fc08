/- ShamirCombines: contracts of the refused cases; the reference's Places. -/
import Derived.Test.YtldanlglefgobaaRef2
namespace Go.Proofs.Ytldanlglefgobaa
open Go.RowKit
set_option linter.unusedVariables false
set_option maxRecDepth 100000 in
set_option maxHeartbeats 1000000 in
theorem places_nil (A : Option Addr) (cap : Nat) (w : World) : Calls Try.prog 34 #[.slice A 0 cap] w fun e w' => e = .returned (.int .i64 0) ∧ w = w' := by
  go_enter Try.func34, Try.ntmps34
  go_wp2_with fail
  go_step3
  go_wp2_with fail
  go_step3
  go_wp2_with fail
  go_wp2_with fail
  go_loopw [3, 10] (fun e i wr => i = .int .i64 0 ∧ e = .int .i64 0 ∧ w = wr) (fun _ _ _ => 0)
  case atStart => exact ⟨rfl, rfl, rfl⟩
  case round =>
    obtain ⟨rfl, rfl, rfl⟩ := hrel
    go_wp2_with fail
    rw [Exit.noGoto_ret]
    go_ret
    exact ⟨rfl, rfl⟩
set_option maxRecDepth 100000 in
set_option maxHeartbeats 1000000 in
theorem refresh_low (A D : Option Addr) (n cap dl cd : Nat) (t : Int) (w : World) (ht : t < 1) :
    Calls Try.prog 27 #[.slice A n cap, .int .i64 t, .slice D dl cd] w (GivesS 0 [] 1 w) := by
  have tt : decide (t < 1) = true := decide_eq_true ht
  go_enter Try.func27, Try.ntmps27
  go_wp2_with fail
  go_ret2
  exact ⟨_, rfl, OwnS.nil_ _ _, Below.refl _ _⟩
set_option maxRecDepth 100000 in
set_option maxHeartbeats 1000000 in
theorem refresh_bad (n cap dl cd : Nat) (ad : Addr) (D : Option Addr) (L : List Nat) (t : Int) (w : World) (hn : 0 < n) (hn2 : n ≤ 1000) (hcap : n ≤ cap) (hcap2 : cap ≤ 9223372036854775807) (hL : L.length = n * 33) (hl : ∀ c ∈ L, c < 256) (hb : ad.block < w.heap.size) (ha : AtA w ad (byt L)) (hp : plc L n ≠ 0) (ht : ¬ t < 1) :
    Calls Try.prog 27 #[.slice (some ad) n cap, .int .i64 t, .slice D dl cd] w (GivesS 0 [] (plc L n) w) := by
  have tt : decide (t < 1) = false := decide_eq_false ht
  have HPC := Lib.hid (places_c n cap ad L w hn hn2 hcap hcap2 hL hl hb ha)
  generalize plc L n = E at *
  have tE : (E != 0) = true := bne_iff_ne.2 hp
  clear hp
  go_enter Try.func27, Try.ntmps27
  go_wp2_with (go_at_call 34; ((refine (HPC.out).mono ?_); rintro e w2 ⟨rfl, hb2⟩; have HB2 := Lib.hid hb2; clear hb2))
  go_ret2
  exact ⟨_, rfl, OwnS.nil_ _ _, HB2.out⟩
set_option maxRecDepth 100000 in
set_option maxHeartbeats 1000000 in
theorem refresh_nil (A D : Option Addr) (cap dl cd : Nat) (t : Int) (w : World) (ht : ¬ t < 1) :
    Calls Try.prog 27 #[.slice A 0 cap, .int .i64 t, .slice D dl cd] w (GivesS 0 [] 0 w) := by
  have tt : decide (t < 1) = false := decide_eq_false ht
  go_enter Try.func27, Try.ntmps27
  go_wp2_with (first
    | (go_at_call 34; ((with_reducible refine (places_nil _ _ _).mono ?_); rintro e w2 ⟨rfl, rfl⟩))
    | (go_at_call 13; ((with_reducible refine (build_c _).mono ?_); rintro e w3 ⟨rfl, hz3, htab, hb3⟩; have HB3 := Lib.hid hb3; clear htab hb3 hz3)))
  go_loopw [10, 26] (fun o i wr => i = .int .i64 0 ∧ o = .slice none 0 0 ∧ Below w.heap.size w wr) (fun _ _ _ => 0)
  case atStart => exact ⟨rfl, rfl, HB3.out⟩
  case round =>
    obtain ⟨rfl, rfl, hb⟩ := hrel
    have HB := Lib.hid hb
    clear hb
    go_wp2_with fail
    go_ret2
    exact ⟨_, rfl, OwnS.nil_ _ _, HB.out⟩
set_option maxRecDepth 100000 in
set_option maxHeartbeats 2000000 in
theorem rplaces_c (n cap : Nat) (ad : Addr) (L : List Nat) (w : World) (hn : 0 < n) (hn2 : n ≤ 1000) (hcap : n ≤ cap) (hcap2 : cap ≤ 9223372036854775807) (hL : L.length = n * 33) (hl : ∀ c ∈ L, c < 256) (ha : AtA w ad (byt L)) :
    Calls Try.prog 28 #[.slice (some ad) n cap] w (Quietly (.int .i64 (plc L n)) w) := by
  have HA := Lib.hid ha
  have HL := Lib.hid hl
  clear ha hl
  go_enter Try.func28, Try.ntmps28
  go_wp2_with fail
  go_loopw [3, 4] (fun e i wr => ∃ k z : Nat, k ≤ n ∧ i = .int .i64 k ∧ e = .int .i64 (if dupX L k then 7 else 0) ∧ zeroX L k = false ∧ wr = w.drewN z) (fun _ i _ => n - (intOf i).toNat)
  case atStart => exact ⟨0, 0, by omega, rfl, rfl, rfl, rfl⟩
  case round =>
    obtain ⟨k, z, hk, rfl, rfl, hz, rfl⟩ := hrel
    have HZ := Lib.hid hz
    clear hz
    by_cases hlt : k < n
    · have c0 : w.cell? (ad.add (k * 33)) = some (.int .u8 (shX L k : Nat)) := HA.out.x hL hlt
      have hxl := shX_lt HL.out k
      have HZE := Lib.hid (zeroX_succ L k)
      have HDU := Lib.hid (dupX_succ L k)
      have HHS := Lib.hid (fun j => hasX_succ L k j)
      have HZO := Lib.hid (fun (h : shX L k = 0) => zeroX_of (L := L) (k := n) hlt h)
      generalize hE : (if dupX L k = true then (7 : Int) else 0) = E
      have HE := Lib.hid hE
      clear hE
      generalize hxk : shX L k = xk at *
      have HXK := Lib.hid hxk
      clear hxk
      by_cases hx0 : xk = 0
      · have hpl : plc L n = 1 := by unfold plc; rw [HZO.out hx0]; rfl
        have HPL := Lib.hid hpl
        have tx : ((xk : Int) == 0) = true := by rw [hx0]; rfl
        clear hpl hx0
        go_wp2_with fail
        go_ret
        exact ⟨by rw [HPL.out]; rfl, z, rfl⟩
      · have tx : ((xk : Int) == 0) = false := beq_eq_false_iff_ne.2 (by omega)
        have hz1 : zeroX L (k + 1) = false := by
          rw [HZE.out, HZ.out, Bool.false_or]
          simpa using hx0
        have HZ1 := Lib.hid hz1
        clear hx0 hz1
        go_wp2_with fail
        go_loopw [3, 5] (fun e j wr2 => ∃ m z2 : Nat, m ≤ k ∧ j = .int .i64 m ∧ e = .int .i64 (if hasX L k m then 7 else E) ∧ wr2 = w.drewN z2) (fun _ j _ => k - (intOf j).toNat)
        case atStart => exact ⟨0, z, by omega, rfl, rfl, rfl⟩
        case round =>
          obtain ⟨m, z2, hm, rfl, rfl, rfl⟩ := hrel
          by_cases hmk : m < k
          · have d0 : w.cell? (ad.add (m * 33)) = some (.int .u8 (shX L m : Nat)) := HA.out.x hL (by omega)
            have hml := shX_lt HL.out m
            have HHN := Lib.hid (HHS.out m)
            have hmn : (m : Int) < (n : Int) := by omega
            have hkn : (k : Int) < (n : Int) := by omega
            generalize hE2 : (if hasX L k m = true then (7 : Int) else E) = E2
            have HE2 := Lib.hid hE2
            clear hE2
            generalize shX L m = xm at *
            by_cases he : xm = xk
            · have te : ((xm : Int) == (xk : Int)) = true := by rw [he]; simp
              have hh : hasX L k (m + 1) = true := by rw [HHN.out]; simp [he]
              have HH := Lib.hid hh
              clear he hh
              go_wp2_with fail
              refine wp_region_class (fun z => w.drewN z) (by kernel_rfl) (by kernel_rfl) ⟨z2 + 1, rfl⟩ ?_
              repeat (go_big_quiet_step (fail))
              refine wpQuiet_nil ?_
              rintro _ ⟨z3, rfl⟩
              go_wp2_with fail
              go_roundw
              case rel =>
                go_light
                exact ⟨m + 1, z3, by omega, by go_num, by rw [HH.out]; rfl, rfl⟩
              case measure => simp [intOf]; omega
            · have te : ((xm : Int) == (xk : Int)) = false := beq_eq_false_iff_ne.2 (by omega)
              have hh : hasX L k (m + 1) = hasX L k m := by rw [HHN.out]; simp [he]
              have HH := Lib.hid hh
              clear he hh
              go_wp2_with fail
              refine wp_region_class (fun z => w.drewN z) (by kernel_rfl) (by kernel_rfl) ⟨z2 + 1, rfl⟩ ?_
              repeat (go_big_quiet_step (fail))
              refine wpQuiet_nil ?_
              rintro _ ⟨z3, rfl⟩
              go_wp2_with fail
              go_roundw
              case rel =>
                go_light
                exact ⟨m + 1, z3, by omega, by go_num, by rw [HH.out, HE2.out], rfl⟩
              case measure => simp [intOf]; omega
          · have hmk2 : m = k := by omega
            have hd1 : (if hasX L k m = true then (7 : Int) else E) = (if dupX L (k + 1) = true then (7 : Int) else 0) := by
              rw [hmk2, HDU.out, ← HE.out]
              cases hasX L k k <;> cases dupX L k <;> rfl
            have HD1 := Lib.hid hd1
            generalize (if hasX L k m = true then (7 : Int) else E) = E2 at *
            clear hd1 hmk2
            go_wp2_with fail
            go_roundw
            case rel =>
              go_light
              exact ⟨k + 1, z2, by omega, by go_num, by rw [HD1.out], HZ1.out, rfl⟩
            case measure => simp [intOf]; omega
    · have hkn : k = n := by omega
      have hz := HZ.out
      rw [hkn] at hz
      have hpl : plc L n = (if dupX L k = true then (7 : Int) else 0) := by unfold plc; rw [hz, hkn]; rfl
      have HPL := Lib.hid hpl
      clear hpl hz hkn
      generalize (if dupX L k = true then (7 : Int) else 0) = E at *
      go_wp2_with fail
      go_ret
      exact ⟨by rw [HPL.out]; rfl, z, rfl⟩
end Go.Proofs.Ytldanlglefgobaa
