/- Contract: the bytes of digits. -/
import Derived.Test.YthlmlmkabjppeaaDoorHx2
namespace Go.Proofs.YthlmlmkabjppeaaDoor
open Go.RowKit
set_option linter.unusedVariables false
set_option linter.unusedSimpArgs false
def errU (s : List Nat) : Nat := if (unh s).isSome then 0 else 4
def resU (s : List Nat) : List Nat := (unh s).getD []
theorem i64_and1 (n : Int) : bits .and .i64 n 1 = n % 2 := by
  have h63 : (BitVec.ofInt 64 1).toNat = 2 ^ 1 - 1 := by decide
  have key : (BitVec.ofInt 64 n &&& BitVec.ofInt 64 1).toNat = (n % ((2 ^ 64 : Nat) : Int)).toNat % 2 ^ 1 := by
    rw [BitVec.toNat_and, BitVec.toNat_ofInt, h63, Nat.and_two_pow_sub_one_eq_mod]
  show IntKind.i64.wrap ((BitVec.ofInt 64 n &&& BitVec.ofInt 64 1).toNat : Nat) = n % 2
  rw [key, IntKind.wrap_i64]
  omega
theorem u8_or (x y : Nat) (hx : x < 16) (hy : y < 16) : bits .or .u8 ((x : Int) * 16) (y : Int) = ((x * 16 + y : Nat) : Int) := by
  have hp : x * 16 ||| y = x * 16 + y := by
    have := Nat.two_pow_add_eq_or_of_lt (i := 4) (b := y) (by omega) x
    rw [show 2 ^ 4 * x = x * 16 by omega] at this
    exact this.symm
  have h1 : BitVec.ofInt 8 ((x : Int) * 16) = BitVec.ofNat 8 (x * 16) := by
    rw [show ((x : Int) * 16) = ((x * 16 : Nat) : Int) by omega, BitVec.ofInt_natCast]
  show IntKind.u8.wrap ((BitVec.ofInt 8 ((x : Int) * 16) ||| BitVec.ofInt 8 (y : Int)).toNat : Nat) = _
  rw [h1, BitVec.ofInt_natCast, BitVec.toNat_or, BitVec.toNat_ofNat, BitVec.toNat_ofNat, Nat.mod_eq_of_lt (show x * 16 < 2 ^ 8 by omega), Nat.mod_eq_of_lt (show y < 2 ^ 8 by omega), hp]
  simp [IntKind.wrap, IntKind.signed, IntKind.bits]
  omega
set_option maxRecDepth 100000 in
set_option maxHeartbeats 4000000 in
theorem unhex_c (s : List Nat) (w : World) (hs : ∀ c ∈ s, c < 256) (hlen : s.length ≤ 10000) :
    Calls Tryd.prog 27 #[.string (bstr s)] w fun e w' => ∃ v, e = .returned (.tuple #[v, .int .i64 (errU s : Nat)]) ∧ OwnB w' w.heap.size v (resU s) ∧ Below w.heap.size w w' := by
  obtain ⟨i0, hi, hz0, hz1, hz2⟩ := info_parts byteInfo
  have HS := Lib.hid hs
  have HSZ := Lib.hid (bstr_size s)
  have HIX := Lib.hid (fun (i : Nat) w (h : i < s.length) => run_index_str s .i64 i w hs h)
  clear hs
  have o1 : bits .and .i64 (s.length : Int) 1 = (s.length : Int) % 2 := i64_and1 _
  have o2 : (s.length : Int).tmod 2 = (s.length : Int) % 2 := Int.tmod_eq_emod_of_nonneg (by omega)
  by_cases hodd : s.length % 2 = 1
  · have hu := unh_odd s hodd
    have HE := Lib.hid (show errU s = 4 by unfold errU; rw [hu]; rfl)
    have HR := Lib.hid (show resU s = [] by unfold resU; rw [hu]; rfl)
    have h2 : (s.length : Int) % 2 = 1 := by omega
    rw [HE.out, HR.out]
    have hsz := HSZ.out
    generalize bstr s = S at *
    clear hu HE HR
    go_enter Tryd.func27, Tryd.ntmps27
    go_wp2_with fail
    go_ret2
    exact ⟨_, rfl, OwnB.nil_ _ _, Below.refl _ _⟩
  · have h2 : (s.length : Int) % 2 = 0 := by omega
    have hsz := HSZ.out
    generalize bstr s = S at *
    go_enter Tryd.func27, Tryd.ntmps27
    go_wp2_with fail
    go_loopw [4, 5] (fun v vi wr => ∃ (j : Nat) (u : List Nat), 2 * j ≤ s.length ∧ vi = .int .i64 (2 * (j : Int)) ∧ unh (s.take (2 * j)) = some u ∧ OwnB wr w.heap.size v u ∧ Below w.heap.size w wr) (fun _ vi _ => s.length - (intOf vi).toNat)
    case atStart => exact ⟨0, [], by omega, rfl, by simp [unh], OwnB.nil_ _ _, Below.refl _ _⟩
    case round =>
      rename World => wr
      obtain ⟨j, u, hj, rfl, hu, ho, hb⟩ := hrel
      have HO := Lib.hid ho
      have HB := Lib.hid hb
      have HU := Lib.hid hu
      clear ho hb hu
      by_cases hlt : 2 * j < s.length
      · have hl1 : 2 * j + 1 < s.length := by omega
        have q0 : (2 * (j : Int)) < (s.length : Int) := by omega
        have x0 := HIX.out (2 * j)
        have x1 := HIX.out (2 * j + 1)
        obtain ⟨hgood, hbad⟩ := unh_at s j HU.out hl1
        have HGD := Lib.hid hgood
        have HBD := Lib.hid hbad
        clear hgood hbad
        have ha := getD_lt HS.out (2 * j)
        have hb2 := getD_lt HS.out (2 * j + 1)
        generalize s.getD (2 * j) 0 = a at *
        generalize s.getD (2 * j + 1) 0 = b at *
        have y0 : ∀ w, (Instr.index 9 (.string S) (.int .i64 (2 * (j : Int)))).run Tryd.prog w = .ok (.int .u8 (a : Nat)) w := fun w => x0 w hlt
        have y1 : ∀ w, (Instr.index 9 (.string S) (.int .i64 (2 * (j : Int) + 1))).run Tryd.prog w = .ok (.int .u8 (b : Nat)) w := fun w => x1 w hl1
        have HDA := Lib.hid (fun W => digit_c a W ha)
        have HDB := Lib.hid (fun W => digit_c b W hb2)
        clear x0 x1
        have HUL := Lib.hid (show 2 * u.length ≤ s.length by have := unh_len HU.out; rw [List.length_take] at this; omega)
        obtain ⟨A1, k1, rfl, _, _, _⟩ := HO.out.rd
        cases ea : dv a with
        | none =>
          have HDA2 : Hid (∀ W, Calls Tryd.prog 50 #[.int .u8 (a : Nat)] W fun e w' => e = .returned (.tuple #[.int .u8 0, .bool false]) ∧ W = w') := Lib.hid (fun W => by have h := HDA.out W; unfold dvV at h; rw [ea] at h; exact h)
          have hun := HBD.out (.inl ea)
          have HE := Lib.hid (show errU s = 4 by unfold errU; rw [hun]; rfl)
          have HR := Lib.hid (show resU s = [] by unfold resU; rw [hun]; rfl)
          obtain ⟨r, okb, hrb⟩ : ∃ (r : Nat) (okb : Bool), dvV b = .tuple #[.int .u8 (r : Nat), .bool okb] := by
            unfold dvV
            cases dv b with
            | none => exact ⟨0, false, rfl⟩
            | some x => exact ⟨x, true, rfl⟩
          rw [hrb] at HDB
          clear HDA hun HGD HBD ea hrb
          go_wp2_with (first
            | (go_at_call 50; (with_reducible refine (HDA2.out _).mono ?_); rintro e wn ⟨rfl, rfl⟩)
            | (go_at_call 50; (with_reducible refine (HDB.out _).mono ?_); rintro e wn ⟨rfl, rfl⟩))
          go_ret2
          rw [HE.out, HR.out]
          exact ⟨_, rfl, OwnB.nil_ _ _, HB.out⟩
        | some x =>
          have HDA2 : Hid (∀ W, Calls Tryd.prog 50 #[.int .u8 (a : Nat)] W fun e w' => e = .returned (.tuple #[.int .u8 (x : Nat), .bool true]) ∧ W = w') := Lib.hid (fun W => by have h := HDA.out W; unfold dvV at h; rw [ea] at h; exact h)
          have hx := dv_lt ea
          cases eb : dv b with
          | none =>
            have HDB2 : Hid (∀ W, Calls Tryd.prog 50 #[.int .u8 (b : Nat)] W fun e w' => e = .returned (.tuple #[.int .u8 0, .bool false]) ∧ W = w') := Lib.hid (fun W => by have h := HDB.out W; unfold dvV at h; rw [eb] at h; exact h)
            have hun := HBD.out (.inr eb)
            have HE := Lib.hid (show errU s = 4 by unfold errU; rw [hun]; rfl)
            have HR := Lib.hid (show resU s = [] by unfold resU; rw [hun]; rfl)
            clear HDA HDB hun HGD HBD ea eb
            go_wp2_with (first
              | (go_at_call 50; (with_reducible refine (HDA2.out _).mono ?_); rintro e wn ⟨rfl, rfl⟩)
              | (go_at_call 50; (with_reducible refine (HDB2.out _).mono ?_); rintro e wn ⟨rfl, rfl⟩))
            go_ret2
            rw [HE.out, HR.out]
            exact ⟨_, rfl, OwnB.nil_ _ _, HB.out⟩
          | some y =>
            have HDB2 : Hid (∀ W, Calls Tryd.prog 50 #[.int .u8 (b : Nat)] W fun e w' => e = .returned (.tuple #[.int .u8 (y : Nat), .bool true]) ∧ W = w') := Lib.hid (fun W => by have h := HDB.out W; unfold dvV at h; rw [eb] at h; exact h)
            have hy := dv_lt eb
            have HUN := Lib.hid (HGD.out x y ea eb)
            have or1 := u8_or x y hx hy
            have m1 : IntKind.u8.wrap ((x : Int) * 16) = (x : Int) * 16 := by simp [IntKind.wrap, IntKind.signed, IntKind.bits]; omega
            have m2 : IntKind.u8.wrap ((x : Int) * 16 + (y : Int)) = ((x * 16 + y : Nat) : Int) := by simp [IntKind.wrap, IntKind.signed, IntKind.bits]; omega
            have m3 : (x : Int) * 16 + (y : Int) = ((x * 16 + y : Nat) : Int) := by omega
            generalize hz : x * 16 + y = z at *
            clear HDA HDB HGD HBD ea eb hz
            go_wp2_with (first
              | (go_at_call 50; (with_reducible refine (HDA2.out _).mono ?_); rintro e wn ⟨rfl, rfl⟩)
              | (go_at_call 50; (with_reducible refine (HDB2.out _).mono ?_); rintro e wn ⟨rfl, rfl⟩)
              | (at_builtin; refine wpList_app _ rfl (.tmp 41) (.tmp 46) _ rfl w.heap.size 5 i0 (.int .u8 0) 1 1 Tryd.underlying22 hi hz0 hz1 hz2 rfl (by decide) _ _ _ rfl (HO.out.alloc _) _ _ 1 1 [.int .u8 (z : Nat)] rfl rfl (by exact rd_one _ _ _) (byt_one [z]) (by have := HUL.out; omega) (by have := HUL.out; omega) (by have := HB.out.size; simp; omega) ?_; intro v9 w9 hap; have HO9 := Lib.hid (show OwnB w9 w.heap.size v9 (u ++ [z]) from OwnB.snoc hap); have HB9 := Lib.hid (show Below w.heap.size w w9 from (HB.out.alloc HB.out.size _).trans (hap.below (HO.out.alloc _) (by have := HB.out.size; simp; omega))); clear hap))
            refine ⟨⟨j + 1, u ++ [z], by omega, by congr 1 <;> omega, HUN.out, HO9.out, HB9.out⟩, ?_⟩
            simp only [intOf]; omega
      · have hjl : 2 * j = s.length := by omega
        have q0 : ¬ (2 * (j : Int)) < (s.length : Int) := by omega
        have hun := HU.out
        rw [hjl, List.take_length] at hun
        have HE := Lib.hid (show errU s = 0 by unfold errU; rw [hun]; rfl)
        have HR := Lib.hid (show resU s = u by unfold resU; rw [hun]; rfl)
        clear hun
        go_wp2_with fail
        go_ret2
        rw [HE.out, HR.out]
        exact ⟨_, rfl, HO.out, HB.out⟩
set_option maxRecDepth 100000 in
set_option maxHeartbeats 4000000 in
theorem runhex_c (s : List Nat) (w : World) (hs : ∀ c ∈ s, c < 256) (hlen : s.length ≤ 10000) :
    Calls Tryd.prog 28 #[.string (bstr s)] w fun e w' => ∃ v, e = .returned (.tuple #[v, .int .i64 (errU s : Nat)]) ∧ OwnB w' w.heap.size v (resU s) ∧ Below w.heap.size w w' := by
  obtain ⟨i0, hi, hz0, hz1, hz2⟩ := info_parts byteInfo
  have HS := Lib.hid hs
  have HSZ := Lib.hid (bstr_size s)
  have HIX := Lib.hid (fun (i : Nat) w (h : i < s.length) => run_index_str s .i64 i w hs h)
  clear hs
  have o1 : bits .and .i64 (s.length : Int) 1 = (s.length : Int) % 2 := i64_and1 _
  have o2 : (s.length : Int).tmod 2 = (s.length : Int) % 2 := Int.tmod_eq_emod_of_nonneg (by omega)
  by_cases hodd : s.length % 2 = 1
  · have hu := unh_odd s hodd
    have HE := Lib.hid (show errU s = 4 by unfold errU; rw [hu]; rfl)
    have HR := Lib.hid (show resU s = [] by unfold resU; rw [hu]; rfl)
    have h2 : (s.length : Int) % 2 = 1 := by omega
    rw [HE.out, HR.out]
    have hsz := HSZ.out
    generalize bstr s = S at *
    clear hu HE HR
    go_enter Tryd.func28, Tryd.ntmps28
    go_wp2_with fail
    go_ret2
    exact ⟨_, rfl, OwnB.nil_ _ _, Below.refl _ _⟩
  · have h2 : (s.length : Int) % 2 = 0 := by omega
    have hsz := HSZ.out
    generalize bstr s = S at *
    go_enter Tryd.func28, Tryd.ntmps28
    go_wp2_with fail
    go_loopw [4, 5] (fun v vi wr => ∃ (j : Nat) (u : List Nat), 2 * j ≤ s.length ∧ vi = .int .i64 (2 * (j : Int)) ∧ unh (s.take (2 * j)) = some u ∧ OwnB wr w.heap.size v u ∧ Below w.heap.size w wr) (fun _ vi _ => s.length - (intOf vi).toNat)
    case atStart => exact ⟨0, [], by omega, rfl, by simp [unh], OwnB.nil_ _ _, Below.refl _ _⟩
    case round =>
      rename World => wr
      obtain ⟨j, u, hj, rfl, hu, ho, hb⟩ := hrel
      have HO := Lib.hid ho
      have HB := Lib.hid hb
      have HU := Lib.hid hu
      clear ho hb hu
      by_cases hlt : 2 * j < s.length
      · have hl1 : 2 * j + 1 < s.length := by omega
        have q0 : (2 * (j : Int)) < (s.length : Int) := by omega
        have x0 := HIX.out (2 * j)
        have x1 := HIX.out (2 * j + 1)
        obtain ⟨hgood, hbad⟩ := unh_at s j HU.out hl1
        have HGD := Lib.hid hgood
        have HBD := Lib.hid hbad
        clear hgood hbad
        have ha := getD_lt HS.out (2 * j)
        have hb2 := getD_lt HS.out (2 * j + 1)
        generalize s.getD (2 * j) 0 = a at *
        generalize s.getD (2 * j + 1) 0 = b at *
        have y0 : ∀ w, (Instr.index 9 (.string S) (.int .i64 (2 * (j : Int)))).run Tryd.prog w = .ok (.int .u8 (a : Nat)) w := fun w => x0 w hlt
        have y1 : ∀ w, (Instr.index 9 (.string S) (.int .i64 (2 * (j : Int) + 1))).run Tryd.prog w = .ok (.int .u8 (b : Nat)) w := fun w => x1 w hl1
        have HDA := Lib.hid (fun W => rdigit_c a W ha)
        have HDB := Lib.hid (fun W => rdigit_c b W hb2)
        clear x0 x1
        have HUL := Lib.hid (show 2 * u.length ≤ s.length by have := unh_len HU.out; rw [List.length_take] at this; omega)
        obtain ⟨A1, k1, rfl, _, _, _⟩ := HO.out.rd
        cases ea : dv a with
        | none =>
          have HDA2 : Hid (∀ W, Calls Tryd.prog 51 #[.int .u8 (a : Nat)] W fun e w' => e = .returned (.tuple #[.int .u8 0, .bool false]) ∧ W = w') := Lib.hid (fun W => by have h := HDA.out W; unfold dvV at h; rw [ea] at h; exact h)
          have hun := HBD.out (.inl ea)
          have HE := Lib.hid (show errU s = 4 by unfold errU; rw [hun]; rfl)
          have HR := Lib.hid (show resU s = [] by unfold resU; rw [hun]; rfl)
          obtain ⟨r, okb, hrb⟩ : ∃ (r : Nat) (okb : Bool), dvV b = .tuple #[.int .u8 (r : Nat), .bool okb] := by
            unfold dvV
            cases dv b with
            | none => exact ⟨0, false, rfl⟩
            | some x => exact ⟨x, true, rfl⟩
          rw [hrb] at HDB
          clear HDA hun HGD HBD ea hrb
          go_wp2_with (first
            | (go_at_call 51; (with_reducible refine (HDA2.out _).mono ?_); rintro e wn ⟨rfl, rfl⟩)
            | (go_at_call 51; (with_reducible refine (HDB.out _).mono ?_); rintro e wn ⟨rfl, rfl⟩))
          go_ret2
          rw [HE.out, HR.out]
          exact ⟨_, rfl, OwnB.nil_ _ _, HB.out⟩
        | some x =>
          have HDA2 : Hid (∀ W, Calls Tryd.prog 51 #[.int .u8 (a : Nat)] W fun e w' => e = .returned (.tuple #[.int .u8 (x : Nat), .bool true]) ∧ W = w') := Lib.hid (fun W => by have h := HDA.out W; unfold dvV at h; rw [ea] at h; exact h)
          have hx := dv_lt ea
          cases eb : dv b with
          | none =>
            have HDB2 : Hid (∀ W, Calls Tryd.prog 51 #[.int .u8 (b : Nat)] W fun e w' => e = .returned (.tuple #[.int .u8 0, .bool false]) ∧ W = w') := Lib.hid (fun W => by have h := HDB.out W; unfold dvV at h; rw [eb] at h; exact h)
            have hun := HBD.out (.inr eb)
            have HE := Lib.hid (show errU s = 4 by unfold errU; rw [hun]; rfl)
            have HR := Lib.hid (show resU s = [] by unfold resU; rw [hun]; rfl)
            clear HDA HDB hun HGD HBD ea eb
            go_wp2_with (first
              | (go_at_call 51; (with_reducible refine (HDA2.out _).mono ?_); rintro e wn ⟨rfl, rfl⟩)
              | (go_at_call 51; (with_reducible refine (HDB2.out _).mono ?_); rintro e wn ⟨rfl, rfl⟩))
            go_ret2
            rw [HE.out, HR.out]
            exact ⟨_, rfl, OwnB.nil_ _ _, HB.out⟩
          | some y =>
            have HDB2 : Hid (∀ W, Calls Tryd.prog 51 #[.int .u8 (b : Nat)] W fun e w' => e = .returned (.tuple #[.int .u8 (y : Nat), .bool true]) ∧ W = w') := Lib.hid (fun W => by have h := HDB.out W; unfold dvV at h; rw [eb] at h; exact h)
            have hy := dv_lt eb
            have HUN := Lib.hid (HGD.out x y ea eb)
            have or1 := u8_or x y hx hy
            have m1 : IntKind.u8.wrap ((x : Int) * 16) = (x : Int) * 16 := by simp [IntKind.wrap, IntKind.signed, IntKind.bits]; omega
            have m2 : IntKind.u8.wrap ((x : Int) * 16 + (y : Int)) = ((x * 16 + y : Nat) : Int) := by simp [IntKind.wrap, IntKind.signed, IntKind.bits]; omega
            have m3 : (x : Int) * 16 + (y : Int) = ((x * 16 + y : Nat) : Int) := by omega
            generalize hz : x * 16 + y = z at *
            clear HDA HDB HGD HBD ea eb hz
            go_wp2_with (first
              | (go_at_call 51; (with_reducible refine (HDA2.out _).mono ?_); rintro e wn ⟨rfl, rfl⟩)
              | (go_at_call 51; (with_reducible refine (HDB2.out _).mono ?_); rintro e wn ⟨rfl, rfl⟩)
              | (at_builtin; refine wpList_app _ rfl (.tmp 41) (.tmp 46) _ rfl w.heap.size 5 i0 (.int .u8 0) 1 1 Tryd.underlying22 hi hz0 hz1 hz2 rfl (by decide) _ _ _ rfl (HO.out.alloc _) _ _ 1 1 [.int .u8 (z : Nat)] rfl rfl (by exact rd_one _ _ _) (byt_one [z]) (by have := HUL.out; omega) (by have := HUL.out; omega) (by have := HB.out.size; simp; omega) ?_; intro v9 w9 hap; have HO9 := Lib.hid (show OwnB w9 w.heap.size v9 (u ++ [z]) from OwnB.snoc hap); have HB9 := Lib.hid (show Below w.heap.size w w9 from (HB.out.alloc HB.out.size _).trans (hap.below (HO.out.alloc _) (by have := HB.out.size; simp; omega))); clear hap))
            refine ⟨⟨j + 1, u ++ [z], by omega, by congr 1 <;> omega, HUN.out, HO9.out, HB9.out⟩, ?_⟩
            simp only [intOf]; omega
      · have hjl : 2 * j = s.length := by omega
        have q0 : ¬ (2 * (j : Int)) < (s.length : Int) := by omega
        have hun := HU.out
        rw [hjl, List.take_length] at hun
        have HE := Lib.hid (show errU s = 0 by unfold errU; rw [hun]; rfl)
        have HR := Lib.hid (show resU s = u by unfold resU; rw [hun]; rfl)
        clear hun
        go_wp2_with fail
        go_ret2
        rw [HE.out, HR.out]
        exact ⟨_, rfl, HO.out, HB.out⟩
end Go.Proofs.YthlmlmkabjppeaaDoor
