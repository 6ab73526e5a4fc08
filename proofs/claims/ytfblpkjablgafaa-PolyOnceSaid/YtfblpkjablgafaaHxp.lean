/- Digits of bytes, by the document. -/
import Derived.Test.YtfblpkjablgafaaBas
namespace Go.Proofs.Ytfblpkjablgafaa
open Go.RowKit
set_option linter.unusedVariables false
set_option linter.unusedSimpArgs false
def bstr (l : List Nat) : ByteArray := ⟨(l.map UInt8.ofNat).toArray⟩
theorem bstr_app (a b : List Nat) : bstr a ++ bstr b = bstr (a ++ b) := by
  unfold bstr
  rw [List.map_append]
  exact ByteArray.mk_append_mk _ _
theorem bstr_size (a : List Nat) : (bstr a).size = a.length := by simp [bstr, ByteArray.size]
/-- a string's bytes -/
def sbytes (s : ByteArray) : List Nat := s.data.toList.map (·.toNat)
theorem sbytes_lt (s : ByteArray) : ∀ c ∈ sbytes s, c < 256 := by
  intro c hc
  obtain ⟨u, _, rfl⟩ := List.mem_map.1 hc
  exact u.toNat_lt
theorem bstr_sbytes (s : ByteArray) : bstr (sbytes s) = s := by
  unfold bstr sbytes
  rw [List.map_map]
  have : (UInt8.ofNat ∘ fun u : UInt8 => u.toNat) = id := by funext u; simp
  rw [this, List.map_id]
theorem bstr_get {l : List Nat} (hl : ∀ c ∈ l, c < 256) {i : Nat} (h : i < l.length) (h' : i < (bstr l).size) : ((bstr l)[i]'h').toNat = l.getD i 0 := by
  have h1 := hl _ (List.getElem_mem h)
  have e : (bstr l)[i]'h' = UInt8.ofNat l[i] := by simp [bstr, ByteArray.getElem_eq_getElem_data]
  rw [e, List.getD_eq_getElem?_getD, List.getElem?_eq_getElem h, UInt8.toNat_ofNat']
  simp only [Option.getD_some]
  omega
theorem bstr_inj {a b : List Nat} (ha : ∀ c ∈ a, c < 256) (hb : ∀ c ∈ b, c < 256) (h : bstr a = bstr b) : a = b := by
  have hn : a.length = b.length := by rw [← bstr_size, ← bstr_size, h]
  refine List.ext_getElem hn fun i h1 h2 => ?_
  have e1 := bstr_get ha h1 (by rw [bstr_size]; exact h1)
  have e2 := bstr_get hb h2 (by rw [bstr_size]; exact h2)
  rw [List.getD_eq_getElem?_getD, List.getElem?_eq_getElem h1] at e1
  rw [List.getD_eq_getElem?_getD, List.getElem?_eq_getElem h2] at e2
  have e3 : ((bstr a)[i]'(by rw [bstr_size]; exact h1)).toNat = ((bstr b)[i]'(by rw [bstr_size]; exact h2)).toNat := by
    congr 1
    simp only [h]
  rw [e1, e2] at e3
  exact e3
theorem run_index_str (l : List Nat) (k : IntKind) (i : Nat) (w : World) (hl : ∀ c ∈ l, c < 256) (h : i < l.length) :
    (Instr.index 9 (.string (bstr l)) (.int k (i : Int))).run Try.prog w = .ok (.int .u8 (l.getD i 0 : Nat)) w := by
  have h1 := run_index_string (P := Try.prog) w 9 (bstr l) k (i : Int) Try.underlying9
  have h2 : 0 ≤ (i : Int) ∧ (i : Int) < ((bstr l).size : Int) := by rw [bstr_size]; omega
  rw [dif_pos h2] at h1
  rw [h1]
  have e : ((bstr l)[(i : Int).toNat]'(by omega)).toNat = l.getD i 0 := bstr_get hl h (by rw [bstr_size]; exact h)
  rw [e]
def hd (n : Nat) : Nat := if n < 10 then n + 48 else n + 87
theorem hd_lt {n : Nat} (h : n < 16) : hd n < 256 := by unfold hd; split <;> omega
def hexs (l : List Nat) : List Nat := l.flatMap fun c => [hd (c / 16), hd (c % 16)]
theorem hexs_len (l : List Nat) : (hexs l).length = 2 * l.length := by
  induction l with
  | nil => rfl
  | cons a l ih => simp only [hexs, List.flatMap_cons, List.length_append, List.length_cons, List.length_nil] at *; omega
theorem hexs_snoc (l : List Nat) (c : Nat) : hexs (l ++ [c]) = hexs l ++ [hd (c / 16), hd (c % 16)] := by simp [hexs]
theorem hexs_lt {l : List Nat} (h : ∀ c ∈ l, c < 256) : ∀ c ∈ hexs l, c < 256 := by
  intro c hc
  obtain ⟨x, hx, hc⟩ := List.mem_flatMap.1 hc
  have := h x hx
  simp only [List.mem_cons, List.not_mem_nil, or_false] at hc
  rcases hc with rfl | rfl
  · exact hd_lt (by omega)
  · exact hd_lt (by omega)
/-- a digit's value -/
def dv (c : Nat) : Option Nat := if 48 ≤ c ∧ c ≤ 57 then some (c - 48) else if 97 ≤ c ∧ c ≤ 102 then some (c - 87) else none
theorem dv_lt {c x : Nat} (h : dv c = some x) : x < 16 := by
  unfold dv at h
  split at h
  · injection h; omega
  · split at h
    · injection h; omega
    · cases h
theorem dv_hd {n : Nat} (h : n < 16) : dv (hd n) = some n := by
  have : ∀ n, n < 16 → dv (hd n) = some n := by decide
  exact this n h
def unh : List Nat → Option (List Nat)
  | [] => some []
  | [_] => none
  | a :: b :: r => match dv a, dv b, unh r with
    | some x, some y, some z => some ((x * 16 + y) :: z)
    | _, _, _ => none
theorem unh_hexs {l : List Nat} (h : ∀ c ∈ l, c < 256) : unh (hexs l) = some l := by
  induction l with
  | nil => rfl
  | cons a l ih =>
    have ha := h a (List.mem_cons_self ..)
    have e : hexs (a :: l) = hd (a / 16) :: hd (a % 16) :: hexs l := rfl
    rw [e, unh, dv_hd (by omega), dv_hd (by omega), ih (fun c hc => h c (List.mem_cons_of_mem _ hc))]
    show some ((a / 16 * 16 + a % 16) :: l) = _
    congr 2
    omega
theorem unh_odd : ∀ (l : List Nat), l.length % 2 = 1 → unh l = none
  | [], h => by cases h
  | [_], _ => rfl
  | a :: b :: r, h => by
    rw [unh, unh_odd r (by simp only [List.length_cons] at h; omega)]
    cases dv a <;> cases dv b <;> rfl
theorem unh_lt {l u : List Nat} (h : unh l = some u) : ∀ c ∈ u, c < 256 := by
  match l, h with
  | [], h => injection h with h; subst h; intro c hc; cases hc
  | [_], h => cases h
  | a :: b :: r, h =>
    rw [unh] at h
    cases ea : dv a with
    | none => rw [ea] at h; cases h
    | some x =>
      cases eb : dv b with
      | none => rw [ea, eb] at h; cases h
      | some y =>
        cases er : unh r with
        | none => rw [ea, eb, er] at h; cases h
        | some z =>
          rw [ea, eb, er] at h
          injection h with h
          subst h
          intro c hc
          rcases List.mem_cons.1 hc with rfl | hc
          · have := dv_lt ea; have := dv_lt eb; omega
          · exact unh_lt er c hc
theorem unh_len {l u : List Nat} (h : unh l = some u) : 2 * u.length = l.length := by
  match l, h with
  | [], h => injection h with h; subst h; rfl
  | [_], h => cases h
  | a :: b :: r, h =>
    rw [unh] at h
    cases ea : dv a with
    | none => rw [ea] at h; cases h
    | some x =>
      cases eb : dv b with
      | none => rw [ea, eb] at h; cases h
      | some y =>
        cases er : unh r with
        | none => rw [ea, eb, er] at h; cases h
        | some z =>
          rw [ea, eb, er] at h
          injection h with h
          subst h
          have := unh_len er
          simp only [List.length_cons]; omega
/-- one pair more, behind pairs that are read -/
theorem unh_app (p : List Nat) {u : List Nat} (hp : unh p = some u) (q : List Nat) : unh (p ++ q) = match unh q with | some z => some (u ++ z) | none => none := by
  match p, hp with
  | [], hp => injection hp with hp; subst hp; rw [List.nil_append]; cases unh q <;> rfl
  | [_], hp => cases hp
  | a :: b :: r, hp =>
    rw [unh] at hp
    cases ea : dv a with
    | none => rw [ea] at hp; cases hp
    | some x =>
      cases eb : dv b with
      | none => rw [ea, eb] at hp; cases hp
      | some y =>
        cases er : unh r with
        | none => rw [ea, eb, er] at hp; cases hp
        | some z =>
          rw [ea, eb, er] at hp
          injection hp with hp
          subst hp
          rw [List.cons_append, List.cons_append, unh, ea, eb, unh_app r er q]
          cases unh q <;> rfl
/-- at a pair in the middle -/
theorem unh_at (s : List Nat) (j : Nat) {u : List Nat} (hp : unh (s.take (2 * j)) = some u) (h : 2 * j + 1 < s.length) :
    (∀ x y, dv (s.getD (2 * j) 0) = some x → dv (s.getD (2 * j + 1) 0) = some y → unh (s.take (2 * (j + 1))) = some (u ++ [x * 16 + y])) ∧
    (dv (s.getD (2 * j) 0) = none ∨ dv (s.getD (2 * j + 1) 0) = none → unh s = none) := by
  have e0 : s.getD (2 * j) 0 = s[2 * j] := by rw [List.getD_eq_getElem?_getD, List.getElem?_eq_getElem (by omega)]; rfl
  have e1 : s.getD (2 * j + 1) 0 = s[2 * j + 1] := by rw [List.getD_eq_getElem?_getD, List.getElem?_eq_getElem h]; rfl
  have ed : s.drop (2 * j) = s[2 * j] :: s[2 * j + 1] :: s.drop (2 * j + 2) := by
    rw [List.drop_eq_getElem_cons (by omega), List.drop_eq_getElem_cons h]
  rw [e0, e1]
  constructor
  · intro x y hx hy
    have et : s.take (2 * (j + 1)) = s.take (2 * j) ++ [s[2 * j], s[2 * j + 1]] := by
      rw [show 2 * (j + 1) = 2 * j + 1 + 1 by omega, List.take_add_one, List.take_add_one, List.getElem?_eq_getElem h, List.getElem?_eq_getElem (by omega), List.append_assoc]
      rfl
    rw [et, unh_app _ hp, unh, hx, hy]
    rfl
  · intro hn
    rw [← List.take_append_drop (2 * j) s, unh_app _ hp, ed, unh]
    rcases hn with hn | hn
    · rw [hn]
    · rw [hn]; cases dv s[2 * j] <;> rfl
theorem digits_at (n : Nat) (h : n < 16) : [48, 49, 50, 51, 52, 53, 54, 55, 56, 57, 97, 98, 99, 100, 101, 102].getD n 0 = hd n := by
  have : ∀ n, n < 16 → [48, 49, 50, 51, 52, 53, 54, 55, 56, 57, 97, 98, 99, 100, 101, 102].getD n 0 = hd n := by decide
  exact this n h
theorem digit_cut (n : Nat) (h : n < 16) : (ByteArray.mk #[48, 49, 50, 51, 52, 53, 54, 55, 56, 57, 97, 98, 99, 100, 101, 102]).extract n (n + 1) = bstr [hd n] := by
  have : ∀ n, n < 16 → (ByteArray.mk #[48, 49, 50, 51, 52, 53, 54, 55, 56, 57, 97, 98, 99, 100, 101, 102]).extract n (n + 1) = bstr [hd n] := by decide
  exact this n h
theorem run_digit (n : Nat) (k : IntKind) (w : World) (h : n < 16) : (Instr.index 9 (.string (ByteArray.mk #[48, 49, 50, 51, 52, 53, 54, 55, 56, 57, 97, 98, 99, 100, 101, 102])) (.int k (n : Int))).run Try.prog w = .ok (.int .u8 (hd n : Nat)) w := by
  have h1 := run_index_str [48, 49, 50, 51, 52, 53, 54, 55, 56, 57, 97, 98, 99, 100, 101, 102] k n w (by decide) h
  rw [digits_at n h] at h1
  exact h1
def dvV (c : Nat) : Value := match dv c with
  | some x => .tuple #[.int .u8 (x : Nat), .bool true]
  | none => .tuple #[.int .u8 0, .bool false]
set_option maxRecDepth 100000 in
theorem rdigit_c (c : Nat) (w : World) (hc : c < 256) : Calls Try.prog 30 #[.int .u8 (c : Nat)] w fun e w' => e = .returned (dvV c) ∧ w = w' := by
  by_cases h1 : 48 ≤ c ∧ c ≤ 57
  · have e : dvV c = .tuple #[.int .u8 ((c : Int) - 48), .bool true] := by unfold dvV dv; rw [if_pos h1]; show Value.tuple #[.int .u8 ((c - 48 : Nat) : Int), .bool true] = _; rw [show ((c - 48 : Nat) : Int) = (c : Int) - 48 by omega]
    rw [e]
    have q1 : (48 : Int) ≤ (c : Int) := by omega
    have q2 : (c : Int) ≤ 57 := by omega
    go_enter Try.func30, Try.ntmps30
    go_wp2_with fail
    go_ret2
    exact ⟨rfl, rfl⟩
  · by_cases h2 : 97 ≤ c ∧ c ≤ 102
    · have e : dvV c = .tuple #[.int .u8 ((c : Int) - 97 + 10), .bool true] := by unfold dvV dv; rw [if_neg h1, if_pos h2]; show Value.tuple #[.int .u8 ((c - 87 : Nat) : Int), .bool true] = _; rw [show ((c - 87 : Nat) : Int) = (c : Int) - 97 + 10 by omega]
      rw [e]
      have q1 : (97 : Int) ≤ (c : Int) := by omega
      have q2 : (c : Int) ≤ 102 := by omega
      have q3 : (48 : Int) ≤ (c : Int) := by omega
      have q4 : ¬ (c : Int) ≤ 57 := by omega
      go_enter Try.func30, Try.ntmps30
      go_wp2_with fail
      go_ret2
      exact ⟨rfl, rfl⟩
    · have e : dvV c = .tuple #[.int .u8 0, .bool false] := by unfold dvV dv; rw [if_neg h1, if_neg h2]
      rw [e]
      go_enter Try.func30, Try.ntmps30
      by_cases h3 : 48 ≤ c
      · have q3 : (48 : Int) ≤ (c : Int) := by omega
        have q4 : ¬ (c : Int) ≤ 57 := by omega
        by_cases h4 : 97 ≤ c
        · have q5 : (97 : Int) ≤ (c : Int) := by omega
          have q6 : ¬ (c : Int) ≤ 102 := by omega
          go_wp2_with fail
          go_ret2
          exact ⟨rfl, rfl⟩
        · have q5 : ¬ (97 : Int) ≤ (c : Int) := by omega
          go_wp2_with fail
          go_ret2
          exact ⟨rfl, rfl⟩
      · have q3 : ¬ (48 : Int) ≤ (c : Int) := by omega
        have q5 : ¬ (97 : Int) ≤ (c : Int) := by omega
        go_wp2_with fail
        go_ret2
        exact ⟨rfl, rfl⟩
theorem run_cut_digit (n : Nat) (w : World) (h : n < 16) : (Instr.slice 9 (.string (ByteArray.mk #[48, 49, 50, 51, 52, 53, 54, 55, 56, 57, 97, 98, 99, 100, 101, 102])) (some (.int .u8 (n : Int))) (some (.int .u8 ((n : Int) + 1))) none).run Try.prog w = .ok (.string (bstr [hd n])) w := by
  have h1 := run_slice_string (P := Try.prog) w 9 (ByteArray.mk #[48, 49, 50, 51, 52, 53, 54, 55, 56, 57, 97, 98, 99, 100, 101, 102]) .u8 .u8 (n : Int) ((n : Int) + 1) Try.underlying9 (by omega) (by omega) (by show ((n : Int) + 1) ≤ ((16 : Nat) : Int); omega)
  rw [h1, show ((n : Int) + 1).toNat = n + 1 by omega, Int.toNat_natCast, digit_cut n h]
set_option maxRecDepth 100000 in
set_option maxHeartbeats 4000000 in
theorem rhex_c (B : Nat) (A : Option Addr) (ca : Nat) (l : List Nat) (w : World) (hr : Rd w B A (byt l)) (hl : ∀ c ∈ l, c < 256) (hlen : l.length ≤ 10000) :
    Calls Try.prog 17 #[.slice A l.length ca] w fun e w' => e = .returned (.string (bstr (hexs l))) ∧ ∃ n, w' = w.drewN n := by
  have HR := Lib.hid hr
  have HL := Lib.hid hl
  clear hr hl
  go_enter Try.func17, Try.ntmps17
  go_wp2_with fail
  go_loopw [3, 4] (fun v vi wr => ∃ k n : Nat, k ≤ l.length ∧ vi = .int .i64 (k : Int) ∧ v = .string (bstr (hexs (l.take k))) ∧ wr = w.drewN n) (fun _ vi _ => l.length - (intOf vi).toNat)
  case atStart => exact ⟨0, 0, by omega, rfl, rfl, rfl⟩
  case round =>
    obtain ⟨k, n, hk, rfl, rfl, rfl⟩ := hrel
    by_cases hlt : k < l.length
    · obtain ⟨ad, rfl, hab, q0⟩ := HR.out.byte hlt
      have HHX := Lib.hid (show bstr (hexs (l.take (k + 1))) = (bstr (hexs (l.take k)) ++ bstr [hd (l.getD k 0 / 16)]) ++ bstr [hd (l.getD k 0 % 16)] by
        rw [List.take_add_one, List.getElem?_eq_getElem hlt, List.getD_eq_getElem?_getD, List.getElem?_eq_getElem hlt, bstr_app, bstr_app, List.append_assoc]
        exact congrArg bstr (hexs_snoc _ _))
      have hc256 := getD_lt HL.out k
      generalize l.getD k 0 = c at *
      have hx16 : c / 16 < 16 := by omega
      have hy16 : c % 16 < 16 := by omega
      have d1 := fun w => run_cut_digit (c / 16) w hx16
      have d2 := fun w => run_cut_digit (c % 16) w hy16
      have a0 : (c : Int).tdiv 16 = ((c / 16 : Nat) : Int) := by rw [Int.tdiv_eq_ediv_of_nonneg (by omega)]; omega
      have a1 : (c : Int).tmod 16 = ((c % 16 : Nat) : Int) := by rw [Int.tmod_eq_emod_of_nonneg (by omega)]; omega
      have a2 : IntKind.u8.wrap (((c / 16 : Nat) : Int) + 1) = ((c / 16 : Nat) : Int) + 1 := by simp [IntKind.wrap, IntKind.signed, IntKind.bits]; omega
      have a3 : IntKind.u8.wrap (((c % 16 : Nat) : Int) + 1) = ((c % 16 : Nat) : Int) + 1 := by simp [IntKind.wrap, IntKind.signed, IntKind.bits]; omega
      generalize hd (c / 16) = x at *
      generalize hd (c % 16) = y at *
      have a4 : IntKind.u8.wrap ((c / 16 : Nat) : Int) = ((c / 16 : Nat) : Int) := by simp [IntKind.wrap, IntKind.signed, IntKind.bits]; omega
      have a5 : IntKind.u8.wrap ((c % 16 : Nat) : Int) = ((c % 16 : Nat) : Int) := by simp [IntKind.wrap, IntKind.signed, IntKind.bits]; omega
      generalize c / 16 = dn at *
      generalize c % 16 = dm at *
      have hsz : (bstr (hexs (l.take k))).size ≤ 20000 := by rw [bstr_size, hexs_len, List.length_take]; omega
      have p1 := fun w => run_string_add_sum (P := Try.prog) (w := w) (bstr (hexs (l.take k))) (bstr [x]) (by rw [bstr_size [x]]; simp only [List.length_cons, List.length_nil]; omega)
      have p2 := fun w => run_string_add_sum (P := Try.prog) (w := w) (bstr (hexs (l.take k)) ++ bstr [x]) (bstr [y]) (by rw [bstr_app, bstr_size, bstr_size, List.length_append, hexs_len, List.length_take]; simp only [List.length_cons, List.length_nil]; omega)
      rw [← HHX.out] at p2
      clear hsz HHX
      obtain ⟨V, hV⟩ : ∃ V, V = bstr (hexs (l.take (k + 1))) := ⟨_, rfl⟩
      rw [← hV] at p2
      have HV := Lib.hid (show Value.string V = .string (bstr (hexs (l.take (k + 1)))) by rw [hV])
      clear hV
      generalize bstr (hexs (l.take k)) ++ bstr [x] = U at *
      generalize bstr (hexs (l.take k)) = S at *
      generalize bstr [x] = T1 at *
      generalize bstr [y] = T2 at *
      go_wp2_with fail
      refine wp_region_quiet_lit (by kernel_rfl) (by kernel_rfl) ?_
      repeat (go_big_quiet_step (fail))
      refine wpQuiet_nil ?_
      rintro _ ⟨n6, rfl⟩
      go_wp2_with fail
      refine ⟨⟨k + 1, n + n6, by omega, by congr 1, HV.out, by first | rfl | exact World.drewN_drewN _ _ _⟩, ?_⟩
      simp only [intOf]; omega
    · obtain rfl : k = l.length := by omega
      rw [List.take_length]
      go_wp2_with fail
      go_ret
      exact ⟨rfl, _, rfl⟩
def errU (s : List Nat) : Nat := if (unh s).isSome then 0 else 4
def resU (s : List Nat) : List Nat := (unh s).getD []
theorem i64_and1 (n : Int) : bits .and .i64 n 1 = n % 2 := by
  have h63 : (BitVec.ofInt 64 1).toNat = 2 ^ 1 - 1 := by decide
  have key : (BitVec.ofInt 64 n &&& BitVec.ofInt 64 1).toNat = (n % ((2 ^ 64 : Nat) : Int)).toNat % 2 ^ 1 := by
    rw [BitVec.toNat_and, BitVec.toNat_ofInt, h63, Nat.and_two_pow_sub_one_eq_mod]
  show IntKind.i64.wrap ((BitVec.ofInt 64 n &&& BitVec.ofInt 64 1).toNat : Nat) = n % 2
  rw [key, IntKind.wrap_i64]
  omega
theorem u8_or (x y : Nat) (hx : x < 16) (hy : y < 16) : bits .or .u8 ((x : Int) * 16) (y : Int) = ((x * 16 + y : Nat) : Int) := by
  have hp : x * 16 ||| y = x * 16 + y := by
    have := Nat.two_pow_add_eq_or_of_lt (i := 4) (b := y) (by omega) x
    rw [show 2 ^ 4 * x = x * 16 by omega] at this
    exact this.symm
  have h1 : BitVec.ofInt 8 ((x : Int) * 16) = BitVec.ofNat 8 (x * 16) := by
    rw [show ((x : Int) * 16) = ((x * 16 : Nat) : Int) by omega, BitVec.ofInt_natCast]
  show IntKind.u8.wrap ((BitVec.ofInt 8 ((x : Int) * 16) ||| BitVec.ofInt 8 (y : Int)).toNat : Nat) = _
  rw [h1, BitVec.ofInt_natCast, BitVec.toNat_or, BitVec.toNat_ofNat, BitVec.toNat_ofNat, Nat.mod_eq_of_lt (show x * 16 < 2 ^ 8 by omega), Nat.mod_eq_of_lt (show y < 2 ^ 8 by omega), hp]
  simp [IntKind.wrap, IntKind.signed, IntKind.bits]
  omega
set_option maxRecDepth 100000 in
set_option maxHeartbeats 4000000 in
theorem runhex_c (s : List Nat) (w : World) (hs : ∀ c ∈ s, c < 256) (hlen : s.length ≤ 10000) :
    Calls Try.prog 16 #[.string (bstr s)] w fun e w' => ∃ v, e = .returned (.tuple #[v, .int .i64 (errU s : Nat)]) ∧ OwnB w' w.heap.size v (resU s) ∧ Below w.heap.size w w' := by
  obtain ⟨i0, hi, hz0, hz1, hz2⟩ := info_parts byteInfo
  have HS := Lib.hid hs
  have HSZ := Lib.hid (bstr_size s)
  have HIX := Lib.hid (fun (i : Nat) w (h : i < s.length) => run_index_str s .i64 i w hs h)
  clear hs
  have o1 : bits .and .i64 (s.length : Int) 1 = (s.length : Int) % 2 := i64_and1 _
  have o2 : (s.length : Int).tmod 2 = (s.length : Int) % 2 := Int.tmod_eq_emod_of_nonneg (by omega)
  by_cases hodd : s.length % 2 = 1
  · have hu := unh_odd s hodd
    have HE := Lib.hid (show errU s = 4 by unfold errU; rw [hu]; rfl)
    have HR := Lib.hid (show resU s = [] by unfold resU; rw [hu]; rfl)
    have h2 : (s.length : Int) % 2 = 1 := by omega
    rw [HE.out, HR.out]
    have hsz := HSZ.out
    generalize bstr s = S at *
    clear hu HE HR
    go_enter Try.func16, Try.ntmps16
    go_wp2_with fail
    go_ret2
    exact ⟨_, rfl, OwnB.nil_ _ _, Below.refl _ _⟩
  · have h2 : (s.length : Int) % 2 = 0 := by omega
    have hsz := HSZ.out
    generalize bstr s = S at *
    go_enter Try.func16, Try.ntmps16
    go_wp2_with fail
    go_loopw [4, 5] (fun v vi wr => ∃ (j : Nat) (u : List Nat), 2 * j ≤ s.length ∧ vi = .int .i64 (2 * (j : Int)) ∧ unh (s.take (2 * j)) = some u ∧ OwnB wr w.heap.size v u ∧ Below w.heap.size w wr) (fun _ vi _ => s.length - (intOf vi).toNat)
    case atStart => exact ⟨0, [], by omega, rfl, by simp [unh], OwnB.nil_ _ _, Below.refl _ _⟩
    case round =>
      rename World => wr
      obtain ⟨j, u, hj, rfl, hu, ho, hb⟩ := hrel
      have HO := Lib.hid ho
      have HB := Lib.hid hb
      have HU := Lib.hid hu
      clear ho hb hu
      by_cases hlt : 2 * j < s.length
      · have hl1 : 2 * j + 1 < s.length := by omega
        have q0 : (2 * (j : Int)) < (s.length : Int) := by omega
        have x0 := HIX.out (2 * j)
        have x1 := HIX.out (2 * j + 1)
        obtain ⟨hgood, hbad⟩ := unh_at s j HU.out hl1
        have HGD := Lib.hid hgood
        have HBD := Lib.hid hbad
        clear hgood hbad
        have ha := getD_lt HS.out (2 * j)
        have hb2 := getD_lt HS.out (2 * j + 1)
        generalize s.getD (2 * j) 0 = a at *
        generalize s.getD (2 * j + 1) 0 = b at *
        have y0 : ∀ w, (Instr.index 9 (.string S) (.int .i64 (2 * (j : Int)))).run Try.prog w = .ok (.int .u8 (a : Nat)) w := fun w => x0 w hlt
        have y1 : ∀ w, (Instr.index 9 (.string S) (.int .i64 (2 * (j : Int) + 1))).run Try.prog w = .ok (.int .u8 (b : Nat)) w := fun w => x1 w hl1
        have HDA := Lib.hid (fun W => rdigit_c a W ha)
        have HDB := Lib.hid (fun W => rdigit_c b W hb2)
        clear x0 x1
        have HUL := Lib.hid (show 2 * u.length ≤ s.length by have := unh_len HU.out; rw [List.length_take] at this; omega)
        obtain ⟨A1, k1, rfl, _, _, _⟩ := HO.out.rd
        cases ea : dv a with
        | none =>
          have HDA2 : Hid (∀ W, Calls Try.prog 30 #[.int .u8 (a : Nat)] W fun e w' => e = .returned (.tuple #[.int .u8 0, .bool false]) ∧ W = w') := Lib.hid (fun W => by have h := HDA.out W; unfold dvV at h; rw [ea] at h; exact h)
          have hun := HBD.out (.inl ea)
          have HE := Lib.hid (show errU s = 4 by unfold errU; rw [hun]; rfl)
          have HR := Lib.hid (show resU s = [] by unfold resU; rw [hun]; rfl)
          obtain ⟨r, okb, hrb⟩ : ∃ (r : Nat) (okb : Bool), dvV b = .tuple #[.int .u8 (r : Nat), .bool okb] := by
            unfold dvV
            cases dv b with
            | none => exact ⟨0, false, rfl⟩
            | some x => exact ⟨x, true, rfl⟩
          rw [hrb] at HDB
          clear HDA hun HGD HBD ea hrb
          go_wp2_with (first
            | (go_at_call 30; (with_reducible refine (HDA2.out _).mono ?_); rintro e wn ⟨rfl, rfl⟩)
            | (go_at_call 30; (with_reducible refine (HDB.out _).mono ?_); rintro e wn ⟨rfl, rfl⟩))
          go_ret2
          rw [HE.out, HR.out]
          exact ⟨_, rfl, OwnB.nil_ _ _, HB.out⟩
        | some x =>
          have HDA2 : Hid (∀ W, Calls Try.prog 30 #[.int .u8 (a : Nat)] W fun e w' => e = .returned (.tuple #[.int .u8 (x : Nat), .bool true]) ∧ W = w') := Lib.hid (fun W => by have h := HDA.out W; unfold dvV at h; rw [ea] at h; exact h)
          have hx := dv_lt ea
          cases eb : dv b with
          | none =>
            have HDB2 : Hid (∀ W, Calls Try.prog 30 #[.int .u8 (b : Nat)] W fun e w' => e = .returned (.tuple #[.int .u8 0, .bool false]) ∧ W = w') := Lib.hid (fun W => by have h := HDB.out W; unfold dvV at h; rw [eb] at h; exact h)
            have hun := HBD.out (.inr eb)
            have HE := Lib.hid (show errU s = 4 by unfold errU; rw [hun]; rfl)
            have HR := Lib.hid (show resU s = [] by unfold resU; rw [hun]; rfl)
            clear HDA HDB hun HGD HBD ea eb
            go_wp2_with (first
              | (go_at_call 30; (with_reducible refine (HDA2.out _).mono ?_); rintro e wn ⟨rfl, rfl⟩)
              | (go_at_call 30; (with_reducible refine (HDB2.out _).mono ?_); rintro e wn ⟨rfl, rfl⟩))
            go_ret2
            rw [HE.out, HR.out]
            exact ⟨_, rfl, OwnB.nil_ _ _, HB.out⟩
          | some y =>
            have HDB2 : Hid (∀ W, Calls Try.prog 30 #[.int .u8 (b : Nat)] W fun e w' => e = .returned (.tuple #[.int .u8 (y : Nat), .bool true]) ∧ W = w') := Lib.hid (fun W => by have h := HDB.out W; unfold dvV at h; rw [eb] at h; exact h)
            have hy := dv_lt eb
            have HUN := Lib.hid (HGD.out x y ea eb)
            have or1 := u8_or x y hx hy
            have m1 : IntKind.u8.wrap ((x : Int) * 16) = (x : Int) * 16 := by simp [IntKind.wrap, IntKind.signed, IntKind.bits]; omega
            have m2 : IntKind.u8.wrap ((x : Int) * 16 + (y : Int)) = ((x * 16 + y : Nat) : Int) := by simp [IntKind.wrap, IntKind.signed, IntKind.bits]; omega
            have m3 : (x : Int) * 16 + (y : Int) = ((x * 16 + y : Nat) : Int) := by omega
            generalize hz : x * 16 + y = z at *
            clear HDA HDB HGD HBD ea eb hz
            go_wp2_with (first
              | (go_at_call 30; (with_reducible refine (HDA2.out _).mono ?_); rintro e wn ⟨rfl, rfl⟩)
              | (go_at_call 30; (with_reducible refine (HDB2.out _).mono ?_); rintro e wn ⟨rfl, rfl⟩)
              | (at_builtin; refine wpList_app _ rfl (.tmp 41) (.tmp 46) _ rfl w.heap.size 5 i0 (.int .u8 0) 1 1 Try.underlying24 hi hz0 hz1 hz2 rfl (by decide) _ _ _ rfl (HO.out.alloc _) _ _ 1 1 [.int .u8 (z : Nat)] rfl rfl (by exact rd_one _ _ _) (byt_one [z]) (by have := HUL.out; omega) (by have := HUL.out; omega) (by have := HB.out.size; simp; omega) ?_; intro v9 w9 hap; have HO9 := Lib.hid (show OwnB w9 w.heap.size v9 (u ++ [z]) from OwnB.snoc hap); have HB9 := Lib.hid (show Below w.heap.size w w9 from (HB.out.alloc HB.out.size _).trans (hap.below (HO.out.alloc _) (by have := HB.out.size; simp; omega))); clear hap))
            refine ⟨⟨j + 1, u ++ [z], by omega, by congr 1 <;> omega, HUN.out, HO9.out, HB9.out⟩, ?_⟩
            simp only [intOf]; omega
      · have hjl : 2 * j = s.length := by omega
        have q0 : ¬ (2 * (j : Int)) < (s.length : Int) := by omega
        have hun := HU.out
        rw [hjl, List.take_length] at hun
        have HE := Lib.hid (show errU s = 0 by unfold errU; rw [hun]; rfl)
        have HR := Lib.hid (show resU s = u by unfold resU; rw [hun]; rfl)
        clear hun
        go_wp2_with fail
        go_ret2
        rw [HE.out, HR.out]
        exact ⟨_, rfl, HO.out, HB.out⟩
end Go.Proofs.Ytfblpkjablgafaa
