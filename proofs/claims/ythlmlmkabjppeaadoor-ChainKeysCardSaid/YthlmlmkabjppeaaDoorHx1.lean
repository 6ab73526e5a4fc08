/- Digits of bytes: plain; a digit's value. -/
import Derived.Test.YthlmlmkabjppeaaDoorRl0
namespace Go.Proofs.YthlmlmkabjppeaaDoor
open Go.RowKit
set_option linter.unusedVariables false
set_option linter.unusedSimpArgs false
def bstr (l : List Nat) : ByteArray := ⟨(l.map UInt8.ofNat).toArray⟩
theorem bstr_app (a b : List Nat) : bstr a ++ bstr b = bstr (a ++ b) := by
  unfold bstr
  rw [List.map_append]
  exact ByteArray.mk_append_mk _ _
theorem bstr_size (a : List Nat) : (bstr a).size = a.length := by simp [bstr, ByteArray.size]
/-- a string's bytes -/
def sbytes (s : ByteArray) : List Nat := s.data.toList.map (·.toNat)
theorem sbytes_lt (s : ByteArray) : ∀ c ∈ sbytes s, c < 256 := by
  intro c hc
  obtain ⟨u, _, rfl⟩ := List.mem_map.1 hc
  exact u.toNat_lt
theorem bstr_sbytes (s : ByteArray) : bstr (sbytes s) = s := by
  unfold bstr sbytes
  rw [List.map_map]
  have : (UInt8.ofNat ∘ fun u : UInt8 => u.toNat) = id := by funext u; simp
  rw [this, List.map_id]
theorem bstr_get {l : List Nat} (hl : ∀ c ∈ l, c < 256) {i : Nat} (h : i < l.length) (h' : i < (bstr l).size) : ((bstr l)[i]'h').toNat = l.getD i 0 := by
  have h1 := hl _ (List.getElem_mem h)
  have e : (bstr l)[i]'h' = UInt8.ofNat l[i] := by simp [bstr, ByteArray.getElem_eq_getElem_data]
  rw [e, List.getD_eq_getElem?_getD, List.getElem?_eq_getElem h, UInt8.toNat_ofNat']
  simp only [Option.getD_some]
  omega
theorem bstr_inj {a b : List Nat} (ha : ∀ c ∈ a, c < 256) (hb : ∀ c ∈ b, c < 256) (h : bstr a = bstr b) : a = b := by
  have hn : a.length = b.length := by rw [← bstr_size, ← bstr_size, h]
  refine List.ext_getElem hn fun i h1 h2 => ?_
  have e1 := bstr_get ha h1 (by rw [bstr_size]; exact h1)
  have e2 := bstr_get hb h2 (by rw [bstr_size]; exact h2)
  rw [List.getD_eq_getElem?_getD, List.getElem?_eq_getElem h1] at e1
  rw [List.getD_eq_getElem?_getD, List.getElem?_eq_getElem h2] at e2
  have e3 : ((bstr a)[i]'(by rw [bstr_size]; exact h1)).toNat = ((bstr b)[i]'(by rw [bstr_size]; exact h2)).toNat := by
    congr 1
    simp only [h]
  rw [e1, e2] at e3
  exact e3
theorem run_index_str (l : List Nat) (k : IntKind) (i : Nat) (w : World) (hl : ∀ c ∈ l, c < 256) (h : i < l.length) :
    (Instr.index 9 (.string (bstr l)) (.int k (i : Int))).run Tryd.prog w = .ok (.int .u8 (l.getD i 0 : Nat)) w := by
  have h1 := run_index_string (P := Tryd.prog) w 9 (bstr l) k (i : Int) Tryd.underlying9
  have h2 : 0 ≤ (i : Int) ∧ (i : Int) < ((bstr l).size : Int) := by rw [bstr_size]; omega
  rw [dif_pos h2] at h1
  rw [h1]
  have e : ((bstr l)[(i : Int).toNat]'(by omega)).toNat = l.getD i 0 := bstr_get hl h (by rw [bstr_size]; exact h)
  rw [e]
/-! digits -/
def hd (n : Nat) : Nat := if n < 10 then n + 48 else n + 87
theorem hd_lt {n : Nat} (h : n < 16) : hd n < 256 := by unfold hd; split <;> omega
def hexs (l : List Nat) : List Nat := l.flatMap fun c => [hd (c / 16), hd (c % 16)]
theorem hexs_len (l : List Nat) : (hexs l).length = 2 * l.length := by
  induction l with
  | nil => rfl
  | cons a l ih => simp only [hexs, List.flatMap_cons, List.length_append, List.length_cons, List.length_nil] at *; omega
theorem hexs_snoc (l : List Nat) (c : Nat) : hexs (l ++ [c]) = hexs l ++ [hd (c / 16), hd (c % 16)] := by simp [hexs]
theorem hexs_lt {l : List Nat} (h : ∀ c ∈ l, c < 256) : ∀ c ∈ hexs l, c < 256 := by
  intro c hc
  obtain ⟨x, hx, hc⟩ := List.mem_flatMap.1 hc
  have := h x hx
  simp only [List.mem_cons, List.not_mem_nil, or_false] at hc
  rcases hc with rfl | rfl
  · exact hd_lt (by omega)
  · exact hd_lt (by omega)
/-- a digit's value -/
def dv (c : Nat) : Option Nat := if 48 ≤ c ∧ c ≤ 57 then some (c - 48) else if 97 ≤ c ∧ c ≤ 102 then some (c - 87) else none
theorem dv_lt {c x : Nat} (h : dv c = some x) : x < 16 := by
  unfold dv at h
  split at h
  · injection h; omega
  · split at h
    · injection h; omega
    · cases h
theorem dv_hd {n : Nat} (h : n < 16) : dv (hd n) = some n := by
  have : ∀ n, n < 16 → dv (hd n) = some n := by decide
  exact this n h
def unh : List Nat → Option (List Nat)
  | [] => some []
  | [_] => none
  | a :: b :: r => match dv a, dv b, unh r with
    | some x, some y, some z => some ((x * 16 + y) :: z)
    | _, _, _ => none
theorem unh_hexs {l : List Nat} (h : ∀ c ∈ l, c < 256) : unh (hexs l) = some l := by
  induction l with
  | nil => rfl
  | cons a l ih =>
    have ha := h a (List.mem_cons_self ..)
    have e : hexs (a :: l) = hd (a / 16) :: hd (a % 16) :: hexs l := rfl
    rw [e, unh, dv_hd (by omega), dv_hd (by omega), ih (fun c hc => h c (List.mem_cons_of_mem _ hc))]
    show some ((a / 16 * 16 + a % 16) :: l) = _
    congr 2
    omega
theorem unh_odd : ∀ (l : List Nat), l.length % 2 = 1 → unh l = none
  | [], h => by cases h
  | [_], _ => rfl
  | a :: b :: r, h => by
    rw [unh, unh_odd r (by simp only [List.length_cons] at h; omega)]
    cases dv a <;> cases dv b <;> rfl
theorem unh_lt {l u : List Nat} (h : unh l = some u) : ∀ c ∈ u, c < 256 := by
  match l, h with
  | [], h => injection h with h; subst h; intro c hc; cases hc
  | [_], h => cases h
  | a :: b :: r, h =>
    rw [unh] at h
    cases ea : dv a with
    | none => rw [ea] at h; cases h
    | some x =>
      cases eb : dv b with
      | none => rw [ea, eb] at h; cases h
      | some y =>
        cases er : unh r with
        | none => rw [ea, eb, er] at h; cases h
        | some z =>
          rw [ea, eb, er] at h
          injection h with h
          subst h
          intro c hc
          rcases List.mem_cons.1 hc with rfl | hc
          · have := dv_lt ea; have := dv_lt eb; omega
          · exact unh_lt er c hc
theorem unh_len {l u : List Nat} (h : unh l = some u) : 2 * u.length = l.length := by
  match l, h with
  | [], h => injection h with h; subst h; rfl
  | [_], h => cases h
  | a :: b :: r, h =>
    rw [unh] at h
    cases ea : dv a with
    | none => rw [ea] at h; cases h
    | some x =>
      cases eb : dv b with
      | none => rw [ea, eb] at h; cases h
      | some y =>
        cases er : unh r with
        | none => rw [ea, eb, er] at h; cases h
        | some z =>
          rw [ea, eb, er] at h
          injection h with h
          subst h
          have := unh_len er
          simp only [List.length_cons]; omega
/-- one pair more, behind pairs that are read -/
theorem unh_app (p : List Nat) {u : List Nat} (hp : unh p = some u) (q : List Nat) : unh (p ++ q) = match unh q with | some z => some (u ++ z) | none => none := by
  match p, hp with
  | [], hp => injection hp with hp; subst hp; rw [List.nil_append]; cases unh q <;> rfl
  | [_], hp => cases hp
  | a :: b :: r, hp =>
    rw [unh] at hp
    cases ea : dv a with
    | none => rw [ea] at hp; cases hp
    | some x =>
      cases eb : dv b with
      | none => rw [ea, eb] at hp; cases hp
      | some y =>
        cases er : unh r with
        | none => rw [ea, eb, er] at hp; cases hp
        | some z =>
          rw [ea, eb, er] at hp
          injection hp with hp
          subst hp
          rw [List.cons_append, List.cons_append, unh, ea, eb, unh_app r er q]
          cases unh q <;> rfl
/-- at a pair in the middle -/
theorem unh_at (s : List Nat) (j : Nat) {u : List Nat} (hp : unh (s.take (2 * j)) = some u) (h : 2 * j + 1 < s.length) :
    (∀ x y, dv (s.getD (2 * j) 0) = some x → dv (s.getD (2 * j + 1) 0) = some y → unh (s.take (2 * (j + 1))) = some (u ++ [x * 16 + y])) ∧
    (dv (s.getD (2 * j) 0) = none ∨ dv (s.getD (2 * j + 1) 0) = none → unh s = none) := by
  have e0 : s.getD (2 * j) 0 = s[2 * j] := by rw [List.getD_eq_getElem?_getD, List.getElem?_eq_getElem (by omega)]; rfl
  have e1 : s.getD (2 * j + 1) 0 = s[2 * j + 1] := by rw [List.getD_eq_getElem?_getD, List.getElem?_eq_getElem h]; rfl
  have ed : s.drop (2 * j) = s[2 * j] :: s[2 * j + 1] :: s.drop (2 * j + 2) := by
    rw [List.drop_eq_getElem_cons (by omega), List.drop_eq_getElem_cons h]
  rw [e0, e1]
  constructor
  · intro x y hx hy
    have et : s.take (2 * (j + 1)) = s.take (2 * j) ++ [s[2 * j], s[2 * j + 1]] := by
      rw [show 2 * (j + 1) = 2 * j + 1 + 1 by omega, List.take_add_one, List.take_add_one, List.getElem?_eq_getElem h, List.getElem?_eq_getElem (by omega), List.append_assoc]
      rfl
    rw [et, unh_app _ hp, unh, hx, hy]
    rfl
  · intro hn
    rw [← List.take_append_drop (2 * j) s, unh_app _ hp, ed, unh]
    rcases hn with hn | hn
    · rw [hn]
    · rw [hn]; cases dv s[2 * j] <;> rfl
theorem digits_at (n : Nat) (h : n < 16) : [48, 49, 50, 51, 52, 53, 54, 55, 56, 57, 97, 98, 99, 100, 101, 102].getD n 0 = hd n := by
  have : ∀ n, n < 16 → [48, 49, 50, 51, 52, 53, 54, 55, 56, 57, 97, 98, 99, 100, 101, 102].getD n 0 = hd n := by decide
  exact this n h
theorem digit_cut (n : Nat) (h : n < 16) : (ByteArray.mk #[48, 49, 50, 51, 52, 53, 54, 55, 56, 57, 97, 98, 99, 100, 101, 102]).extract n (n + 1) = bstr [hd n] := by
  have : ∀ n, n < 16 → (ByteArray.mk #[48, 49, 50, 51, 52, 53, 54, 55, 56, 57, 97, 98, 99, 100, 101, 102]).extract n (n + 1) = bstr [hd n] := by decide
  exact this n h
theorem run_digit (n : Nat) (k : IntKind) (w : World) (h : n < 16) : (Instr.index 9 (.string (ByteArray.mk #[48, 49, 50, 51, 52, 53, 54, 55, 56, 57, 97, 98, 99, 100, 101, 102])) (.int k (n : Int))).run Tryd.prog w = .ok (.int .u8 (hd n : Nat)) w := by
  have h1 := run_index_str [48, 49, 50, 51, 52, 53, 54, 55, 56, 57, 97, 98, 99, 100, 101, 102] k n w (by decide) h
  rw [digits_at n h] at h1
  exact h1
/-! the contracts of a digit -/
def dvV (c : Nat) : Value := match dv c with
  | some x => .tuple #[.int .u8 (x : Nat), .bool true]
  | none => .tuple #[.int .u8 0, .bool false]
set_option maxRecDepth 100000 in
theorem digit_c (c : Nat) (w : World) (hc : c < 256) : Calls Tryd.prog 50 #[.int .u8 (c : Nat)] w fun e w' => e = .returned (dvV c) ∧ w = w' := by
  by_cases h1 : 48 ≤ c ∧ c ≤ 57
  · have e : dvV c = .tuple #[.int .u8 ((c : Int) - 48), .bool true] := by unfold dvV dv; rw [if_pos h1]; show Value.tuple #[.int .u8 ((c - 48 : Nat) : Int), .bool true] = _; rw [show ((c - 48 : Nat) : Int) = (c : Int) - 48 by omega]
    rw [e]
    have q1 : (48 : Int) ≤ (c : Int) := by omega
    have q2 : (c : Int) ≤ 57 := by omega
    go_enter Tryd.func50, Tryd.ntmps50
    go_wp2_with fail
    go_ret2
    exact ⟨rfl, rfl⟩
  · by_cases h2 : 97 ≤ c ∧ c ≤ 102
    · have e : dvV c = .tuple #[.int .u8 ((c : Int) - 97 + 10), .bool true] := by unfold dvV dv; rw [if_neg h1, if_pos h2]; show Value.tuple #[.int .u8 ((c - 87 : Nat) : Int), .bool true] = _; rw [show ((c - 87 : Nat) : Int) = (c : Int) - 97 + 10 by omega]
      rw [e]
      have q1 : (97 : Int) ≤ (c : Int) := by omega
      have q2 : (c : Int) ≤ 102 := by omega
      have q3 : (48 : Int) ≤ (c : Int) := by omega
      have q4 : ¬ (c : Int) ≤ 57 := by omega
      go_enter Tryd.func50, Tryd.ntmps50
      go_wp2_with fail
      go_ret2
      exact ⟨rfl, rfl⟩
    · have e : dvV c = .tuple #[.int .u8 0, .bool false] := by unfold dvV dv; rw [if_neg h1, if_neg h2]
      rw [e]
      go_enter Tryd.func50, Tryd.ntmps50
      by_cases h3 : 48 ≤ c
      · have q3 : (48 : Int) ≤ (c : Int) := by omega
        have q4 : ¬ (c : Int) ≤ 57 := by omega
        by_cases h4 : 97 ≤ c
        · have q5 : (97 : Int) ≤ (c : Int) := by omega
          have q6 : ¬ (c : Int) ≤ 102 := by omega
          go_wp2_with fail
          go_ret2
          exact ⟨rfl, rfl⟩
        · have q5 : ¬ (97 : Int) ≤ (c : Int) := by omega
          go_wp2_with fail
          go_ret2
          exact ⟨rfl, rfl⟩
      · have q3 : ¬ (48 : Int) ≤ (c : Int) := by omega
        have q5 : ¬ (97 : Int) ≤ (c : Int) := by omega
        go_wp2_with fail
        go_ret2
        exact ⟨rfl, rfl⟩
set_option maxRecDepth 100000 in
theorem rdigit_c (c : Nat) (w : World) (hc : c < 256) : Calls Tryd.prog 51 #[.int .u8 (c : Nat)] w fun e w' => e = .returned (dvV c) ∧ w = w' := by
  by_cases h1 : 48 ≤ c ∧ c ≤ 57
  · have e : dvV c = .tuple #[.int .u8 ((c : Int) - 48), .bool true] := by unfold dvV dv; rw [if_pos h1]; show Value.tuple #[.int .u8 ((c - 48 : Nat) : Int), .bool true] = _; rw [show ((c - 48 : Nat) : Int) = (c : Int) - 48 by omega]
    rw [e]
    have q1 : (48 : Int) ≤ (c : Int) := by omega
    have q2 : (c : Int) ≤ 57 := by omega
    go_enter Tryd.func51, Tryd.ntmps51
    go_wp2_with fail
    go_ret2
    exact ⟨rfl, rfl⟩
  · by_cases h2 : 97 ≤ c ∧ c ≤ 102
    · have e : dvV c = .tuple #[.int .u8 ((c : Int) - 97 + 10), .bool true] := by unfold dvV dv; rw [if_neg h1, if_pos h2]; show Value.tuple #[.int .u8 ((c - 87 : Nat) : Int), .bool true] = _; rw [show ((c - 87 : Nat) : Int) = (c : Int) - 97 + 10 by omega]
      rw [e]
      have q1 : (97 : Int) ≤ (c : Int) := by omega
      have q2 : (c : Int) ≤ 102 := by omega
      have q3 : (48 : Int) ≤ (c : Int) := by omega
      have q4 : ¬ (c : Int) ≤ 57 := by omega
      go_enter Tryd.func51, Tryd.ntmps51
      go_wp2_with fail
      go_ret2
      exact ⟨rfl, rfl⟩
    · have e : dvV c = .tuple #[.int .u8 0, .bool false] := by unfold dvV dv; rw [if_neg h1, if_neg h2]
      rw [e]
      go_enter Tryd.func51, Tryd.ntmps51
      by_cases h3 : 48 ≤ c
      · have q3 : (48 : Int) ≤ (c : Int) := by omega
        have q4 : ¬ (c : Int) ≤ 57 := by omega
        by_cases h4 : 97 ≤ c
        · have q5 : (97 : Int) ≤ (c : Int) := by omega
          have q6 : ¬ (c : Int) ≤ 102 := by omega
          go_wp2_with fail
          go_ret2
          exact ⟨rfl, rfl⟩
        · have q5 : ¬ (97 : Int) ≤ (c : Int) := by omega
          go_wp2_with fail
          go_ret2
          exact ⟨rfl, rfl⟩
      · have q3 : ¬ (48 : Int) ≤ (c : Int) := by omega
        have q5 : ¬ (97 : Int) ≤ (c : Int) := by omega
        go_wp2_with fail
        go_ret2
        exact ⟨rfl, rfl⟩
end Go.Proofs.YthlmlmkabjppeaaDoor
