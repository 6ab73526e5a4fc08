/- Contracts: the document's turn, cut, number, high. -/
import Derived.Test.YthlmlmkabjppeaaDoorShw5
namespace Go.Proofs.YthlmlmkabjppeaaDoor
open Go.RowKit
set_option linter.unusedVariables false
set_option maxRecDepth 100000 in
set_option maxHeartbeats 1000000 in
theorem rturn_c (n k : Nat) (w : World) (hn : n < 4294967296) (hk : k ≤ 32) : Calls Tryd.prog 44 #[.int .u32 n, .int .i64 k] w fun e w' => e = .returned (.int .u32 (rotr n k : Nat)) ∧ w = w' := by
  go_enter Tryd.func44, Tryd.ntmps44
  go_wp2_with fail
  go_loopw [0, 5] (fun v i wr => ∃ j : Nat, j ≤ k ∧ v = .int .u32 (rotr n j : Nat) ∧ i = .int .i64 j ∧ w = wr) (fun _ i _ => k - (intOf i).toNat)
  case atStart => exact ⟨0, by omega, by rw [rotr_zero], rfl, rfl⟩
  case round =>
    obtain ⟨j, hj, rfl, rfl, rfl⟩ := hrel
    by_cases hlt : j < k
    · have hx := rotr_lt (k := j) hn (by omega)
      have HS := Lib.hid (rotr_succ (k := j) hn (by omega))
      generalize rotr n j = X at *
      go_wp2_with fail
      refine ⟨⟨j + 1, by omega, ?_, (by congr 1), True.intro⟩, ?_⟩
      · rw [HS.out]; congr 1
      · simp only [intOf]; omega
    · obtain rfl : j = k := by omega
      go_wp2_with fail
      go_ret
      exact ⟨rfl, rfl⟩
set_option maxRecDepth 100000 in
set_option maxHeartbeats 1000000 in
theorem rcut_c (n k : Nat) (w : World) (hn : n < 4294967296) (hk : k ≤ 32) : Calls Tryd.prog 45 #[.int .u32 n, .int .i64 k] w fun e w' => e = .returned (.int .u32 (n / 2 ^ k : Nat)) ∧ w = w' := by
  go_enter Tryd.func45, Tryd.ntmps45
  go_wp2_with fail
  go_loopw [0, 5] (fun v i wr => ∃ j : Nat, j ≤ k ∧ v = .int .u32 (n / 2 ^ j : Nat) ∧ i = .int .i64 j ∧ w = wr) (fun _ i _ => k - (intOf i).toNat)
  case atStart => exact ⟨0, by omega, by simp, rfl, rfl⟩
  case round =>
    obtain ⟨j, hj, rfl, rfl, rfl⟩ := hrel
    by_cases hlt : j < k
    · have hx : n / 2 ^ j < 4294967296 := Nat.lt_of_le_of_lt (Nat.div_le_self _ _) hn
      have HS := Lib.hid (show n / 2 ^ (j + 1) = n / 2 ^ j / 2 by rw [Nat.pow_succ, Nat.div_div_eq_div_mul])
      generalize n / 2 ^ j = X at *
      go_wp2_with fail
      refine ⟨⟨j + 1, by omega, ?_, (by congr 1), True.intro⟩, ?_⟩
      · rw [HS.out]; congr 1
      · simp only [intOf]; omega
    · obtain rfl : j = k := by omega
      go_wp2_with fail
      go_ret
      exact ⟨rfl, rfl⟩
/-- the number of bytes, the highest first -/
def numB (l : List Nat) : Nat := l.foldl (fun n b => n * 256 + b) 0
theorem numB_take {l : List Nat} {j : Nat} (h : j < l.length) : numB (l.take (j + 1)) = numB (l.take j) * 256 + l.getD j 0 := by
  unfold numB
  rw [List.take_add_one, List.getElem?_eq_getElem h, List.foldl_append, List.getD_eq_getElem?_getD, List.getElem?_eq_getElem h]
  rfl
theorem numB_snoc (l : List Nat) (c : Nat) : numB (l ++ [c]) = numB l * 256 + c := by simp [numB, List.foldl_append]
theorem numB_pow : ∀ (n : Nat) (l : List Nat), l.length = n → (∀ c ∈ l, c < 256) → numB l < 256 ^ n
  | 0, l, h, _ => by rw [List.eq_nil_of_length_eq_zero h]; decide
  | n + 1, l, h, hl => by
    have hne : l ≠ [] := fun h0 => by rw [h0] at h; cases h
    rw [← List.dropLast_concat_getLast hne, numB_snoc, Nat.pow_succ]
    have h1 := numB_pow n l.dropLast (by simp [h]) (fun c hc => hl c (List.dropLast_subset _ hc))
    have h2 := hl _ (List.getLast_mem hne)
    omega
theorem numB_lt (l : List Nat) (hl : ∀ c ∈ l, c < 256) (h : l.length ≤ 7) : numB l < 72057594037927936 := by
  have h1 := numB_pow _ l rfl hl
  have h2 : 256 ^ l.length ≤ 256 ^ 7 := Nat.pow_le_pow_right (by decide) h
  omega
set_option maxRecDepth 100000 in
set_option maxHeartbeats 1000000 in
theorem hnumber_c (B : Nat) (ad : Addr) (ca : Nat) (l : List Nat) (w : World) (hr : Rd w B (some ad) (byt l)) (hl : ∀ c ∈ l, c < 256) (hlen : l.length ≤ 8) :
    Calls Tryd.prog 43 #[.slice (some ad) l.length ca] w fun e w' => e = .returned (.int .u64 (numB l : Nat)) ∧ w = w' := by
  have HR := Lib.hid hr
  have HL := Lib.hid hl
  clear hr hl
  go_enter Tryd.func43, Tryd.ntmps43
  go_wp2_with fail
  go_loopw [3, 4] (fun v i wr => ∃ j : Nat, j ≤ l.length ∧ v = .int .u64 (numB (l.take j) : Nat) ∧ i = .int .i64 j ∧ w = wr) (fun _ i _ => l.length - (intOf i).toNat)
  case atStart => exact ⟨0, by omega, rfl, rfl, rfl⟩
  case round =>
    obtain ⟨j, hj, rfl, rfl, rfl⟩ := hrel
    by_cases hlt : j < l.length
    · have HS := Lib.hid (numB_take hlt)
      have hx := numB_lt (l.take j) (fun c hc => HL.out c (List.mem_of_mem_take hc)) (by rw [List.length_take]; omega)
      have hc := HL.out _ (getD_mem l j hlt)
      obtain ⟨_, e0, _, eb⟩ := HR.out.byte hlt
      injection e0 with e0
      subst e0
      generalize numB (l.take j) = X at *
      generalize l.getD j 0 = y at *
      go_wp2_with fail
      refine ⟨⟨j + 1, by omega, ?_, (by congr 1), True.intro⟩, ?_⟩
      · rw [HS.out]; congr 1
      · simp only [intOf]; omega
    · obtain rfl : j = l.length := by omega
      rw [List.take_length]
      go_wp2_with fail
      go_ret
      exact ⟨rfl, rfl⟩
theorem OwnB.ofBlk {w : World} {base g : Nat} {l : List Nat} (hb : base ≤ g) (h : Blk w g 5 (vb l)) (hm : l.length ≤ maxLen) : OwnB w base (.slice (some ⟨g, 0, none⟩) l.length l.length) l :=
  ⟨by simp [byt_len], .inr ⟨g, l.length, _, rfl, hb, h, Nat.le_refl _, hm, by simp [vb, byt_len], List.take_of_length_le (by simp [vb, byt_len])⟩⟩
theorem high_top (j : Nat) : ∀ n, high n (j + 1) = (n / 256 ^ j % 256) :: high n j := by
  induction j with
  | zero => intro n; simp [high]
  | succ j ih =>
    intro n
    show high (n / 256) (j + 1) ++ [n % 256] = _
    rw [ih, Nat.div_div_eq_div_mul, Nat.pow_succ, Nat.mul_comm 256]
    rfl
/-- what is laid from the end -/
def hiZ (n k j : Nat) : List Nat := List.replicate (k - j) 0 ++ high n j
theorem hiZ_len (n k j : Nat) (h : j ≤ k) : (hiZ n k j).length = k := by simp [hiZ, high_len]; omega
theorem hiZ_zero (n k : Nat) : hiZ n k 0 = List.replicate k 0 := by simp [hiZ, high]
theorem hiZ_end (n k : Nat) : hiZ n k k = high n k := by simp [hiZ]
theorem hiZ_set (n k j : Nat) (h : j < k) : (hiZ n k j).set (k - 1 - j) (n / 256 ^ j % 256) = hiZ n k (j + 1) := by
  unfold hiZ
  rw [high_top, show k - j = (k - (j + 1)) + 1 by omega, List.replicate_succ', List.append_assoc, List.set_append_right _ _ (by simp; omega), List.length_replicate, show k - 1 - j - (k - (j + 1)) = 0 by omega]
  rfl
theorem make_by (k : Nat) (hk : k = 4 ∨ k = 8) (w : World) : (Instr.makeSlice 22 (.int .i64 (k : Int)) (.int .i64 (k : Int))).run Tryd.prog w = .ok (.slice (some ⟨w.heap.size, 0, none⟩) k k) (w.alloc (.cells (vb (List.replicate k 0)) 5)) := by
  rcases hk with rfl | rfl <;> kernel_rfl
set_option maxRecDepth 100000 in
set_option maxHeartbeats 1000000 in
theorem rhigh_c (n k : Nat) (w : World) (hn : n < 18446744073709551616) (hk : k = 4 ∨ k = 8) : Calls Tryd.prog 41 #[.int .u64 n, .int .i64 k] w (Gives (high n k) w) := by
  have hmk := make_by k hk
  have hk8 : 0 < k ∧ k ≤ 8 := by omega
  clear hk
  go_enter Tryd.func41, Tryd.ntmps41
  go_wp2_with fail
  obtain ⟨Z, hZ⟩ : ∃ Z, Z = w.alloc (Obj.cells (vb (List.replicate k 0)) 5) := ⟨_, rfl⟩
  have H0 := Lib.hid (show Below w.heap.size w Z ∧ Blk Z w.heap.size 5 (vb (hiZ n k 0)) by
    rw [hZ, hiZ_zero]
    exact ⟨(Below.refl _ _).alloc (Nat.le_refl _) _, Blk.new _ _ _⟩)
  rw [← hZ]
  clear hZ hmk
  go_loopw [0, 6] (fun v i wr => ∃ j : Nat, j ≤ k ∧ v = .int .u64 (n / 256 ^ j : Nat) ∧ i = .int .i64 ((k : Int) - 1 - j) ∧ Below w.heap.size w wr ∧ Blk wr w.heap.size 5 (vb (hiZ n k j))) (fun _ i _ => match i with | .int _ n => (n + 1).toNat | _ => 0)
  case atStart => exact ⟨0, by omega, by simp, by simp, H0.out.1, H0.out.2⟩
  case round =>
    rename World => wr
    obtain ⟨j, hj, rfl, rfl, hb, hk⟩ := hrel
    have HB := Lib.hid hb
    have HK := Lib.hid hk
    clear hb hk H0
    by_cases hlt : j < k
    · have hx : n / 256 ^ j < 18446744073709551616 := Nat.lt_of_le_of_lt (Nat.div_le_self _ _) hn
      have HS := Lib.hid (show n / 256 ^ (j + 1) = n / 256 ^ j / 256 by rw [Nat.pow_succ, Nat.div_div_eq_div_mul])
      have HZS := Lib.hid (hiZ_set n k j hlt)
      have eo := HK.out.cell (k - 1 - j)
      rw [vb_at _ _ (by rw [hiZ_len _ _ _ hj]; omega)] at eo
      have ef := HK.out.free (k - 1 - j)
      have et : ((k : Int) - 1 - j).toNat = k - 1 - j := by omega
      generalize n / 256 ^ j = X at *
      go_wp2_with fail
      refine ⟨⟨j + 1, by omega, ?_, ?_, HB.out.setCell (Nat.le_refl _) _, ?_⟩, ?_⟩
      · rw [HS.out]; congr 1
      · congr 1; omega
      · rw [← HZS.out, ← vb_set]
        exact HK.out.set_ _ _
      · show ((k : Int) - 1 - j - 1 + 1).toNat < ((k : Int) - 1 - j + 1).toNat
        omega
    · obtain rfl : j = k := by omega
      rw [hiZ_end] at HK
      go_wp2_with fail
      go_ret
      have ho := OwnB.ofBlk (base := w.heap.size) (Nat.le_refl _) HK.out (by rw [high_len]; simp [maxLen]; omega)
      rw [high_len] at ho
      exact ⟨_, rfl, ho, HB.out⟩
end Go.Proofs.YthlmlmkabjppeaaDoor
