/- Parts, one behind the other: Rsm1 Rl0 Hx1 Hx2 Rg0 SrK Byt1 Hx3 Aw02 Hx4 Rl4 Rl6 Rl8 Rl2. -/
import Derived.Test.YtbgnjjbmidkhlaaDoorZ02
import Derived.StillTailTactics
import Derived.WalkKit
import Derived.Shelf.SlSortCmp.InsertionK
import Derived.Lib.SlBytesConst
import Derived.Lib.SmallJoins
/- Contracts: the document's turn, cut, number, high. -/
namespace Go.Proofs.YtbgnjjbmidkhlaaDoor
set_option linter.unusedVariables false
set_option linter.unusedSimpArgs false
open Go.RowKit
set_option linter.unusedVariables false
set_option maxRecDepth 100000 in
set_option maxHeartbeats 1000000 in
theorem rturn_c (n k : Nat) (w : World) (hn : n < 4294967296) (hk : k ≤ 32) : Calls Tryd.prog 53 #[.int .u32 n, .int .i64 k] w fun e w' => e = .returned (.int .u32 (rotr n k : Nat)) ∧ w = w' := by
  go_enter Tryd.func53, Tryd.ntmps53
  go_wp2_with fail
  go_loopw [0, 5] (fun v i wr => ∃ j : Nat, j ≤ k ∧ v = .int .u32 (rotr n j : Nat) ∧ i = .int .i64 j ∧ w = wr) (fun _ i _ => k - (intOf i).toNat)
  case atStart => exact ⟨0, by omega, by rw [rotr_zero], rfl, rfl⟩
  case round =>
    obtain ⟨j, hj, rfl, rfl, rfl⟩ := hrel
    by_cases hlt : j < k
    · have hx := rotr_lt (k := j) hn (by omega)
      have HS := Lib.hid (rotr_succ (k := j) hn (by omega))
      generalize rotr n j = X at *
      go_wp2_with fail
      refine ⟨⟨j + 1, by omega, ?_, (by congr 1), True.intro⟩, ?_⟩
      · rw [HS.out]; congr 1
      · simp only [intOf]; omega
    · obtain rfl : j = k := by omega
      go_wp2_with fail
      go_ret
      exact ⟨rfl, rfl⟩
set_option maxRecDepth 100000 in
set_option maxHeartbeats 1000000 in
theorem rcut_c (n k : Nat) (w : World) (hn : n < 4294967296) (hk : k ≤ 32) : Calls Tryd.prog 54 #[.int .u32 n, .int .i64 k] w fun e w' => e = .returned (.int .u32 (n / 2 ^ k : Nat)) ∧ w = w' := by
  go_enter Tryd.func54, Tryd.ntmps54
  go_wp2_with fail
  go_loopw [0, 5] (fun v i wr => ∃ j : Nat, j ≤ k ∧ v = .int .u32 (n / 2 ^ j : Nat) ∧ i = .int .i64 j ∧ w = wr) (fun _ i _ => k - (intOf i).toNat)
  case atStart => exact ⟨0, by omega, by simp, rfl, rfl⟩
  case round =>
    obtain ⟨j, hj, rfl, rfl, rfl⟩ := hrel
    by_cases hlt : j < k
    · have hx : n / 2 ^ j < 4294967296 := Nat.lt_of_le_of_lt (Nat.div_le_self _ _) hn
      have HS := Lib.hid (show n / 2 ^ (j + 1) = n / 2 ^ j / 2 by rw [Nat.pow_succ, Nat.div_div_eq_div_mul])
      generalize n / 2 ^ j = X at *
      go_wp2_with fail
      refine ⟨⟨j + 1, by omega, ?_, (by congr 1), True.intro⟩, ?_⟩
      · rw [HS.out]; congr 1
      · simp only [intOf]; omega
    · obtain rfl : j = k := by omega
      go_wp2_with fail
      go_ret
      exact ⟨rfl, rfl⟩
/-- the number of bytes, the highest first -/
def numB (l : List Nat) : Nat := l.foldl (fun n b => n * 256 + b) 0
theorem numB_take {l : List Nat} {j : Nat} (h : j < l.length) : numB (l.take (j + 1)) = numB (l.take j) * 256 + l.getD j 0 := by
  unfold numB
  rw [List.take_add_one, List.getElem?_eq_getElem h, List.foldl_append, List.getD_eq_getElem?_getD, List.getElem?_eq_getElem h]
  rfl
theorem numB_snoc (l : List Nat) (c : Nat) : numB (l ++ [c]) = numB l * 256 + c := by simp [numB, List.foldl_append]
theorem numB_pow : ∀ (n : Nat) (l : List Nat), l.length = n → (∀ c ∈ l, c < 256) → numB l < 256 ^ n
  | 0, l, h, _ => by rw [List.eq_nil_of_length_eq_zero h]; decide
  | n + 1, l, h, hl => by
    have hne : l ≠ [] := fun h0 => by rw [h0] at h; cases h
    rw [← List.dropLast_concat_getLast hne, numB_snoc, Nat.pow_succ]
    have h1 := numB_pow n l.dropLast (by simp [h]) (fun c hc => hl c (List.dropLast_subset _ hc))
    have h2 := hl _ (List.getLast_mem hne)
    omega
theorem numB_lt (l : List Nat) (hl : ∀ c ∈ l, c < 256) (h : l.length ≤ 7) : numB l < 72057594037927936 := by
  have h1 := numB_pow _ l rfl hl
  have h2 : 256 ^ l.length ≤ 256 ^ 7 := Nat.pow_le_pow_right (by decide) h
  omega
set_option maxRecDepth 100000 in
set_option maxHeartbeats 1000000 in
theorem hnumber_c (B : Nat) (ad : Addr) (ca : Nat) (l : List Nat) (w : World) (hr : Rd w B (some ad) (byt l)) (hl : ∀ c ∈ l, c < 256) (hlen : l.length ≤ 8) :
    Calls Tryd.prog 52 #[.slice (some ad) l.length ca] w fun e w' => e = .returned (.int .u64 (numB l : Nat)) ∧ w = w' := by
  have HR := Lib.hid hr
  have HL := Lib.hid hl
  clear hr hl
  go_enter Tryd.func52, Tryd.ntmps52
  go_wp2_with fail
  go_loopw [3, 4] (fun v i wr => ∃ j : Nat, j ≤ l.length ∧ v = .int .u64 (numB (l.take j) : Nat) ∧ i = .int .i64 j ∧ w = wr) (fun _ i _ => l.length - (intOf i).toNat)
  case atStart => exact ⟨0, by omega, rfl, rfl, rfl⟩
  case round =>
    obtain ⟨j, hj, rfl, rfl, rfl⟩ := hrel
    by_cases hlt : j < l.length
    · have HS := Lib.hid (numB_take hlt)
      have hx := numB_lt (l.take j) (fun c hc => HL.out c (List.mem_of_mem_take hc)) (by rw [List.length_take]; omega)
      have hc := HL.out _ (getD_mem l j hlt)
      obtain ⟨_, e0, _, eb⟩ := HR.out.byte hlt
      injection e0 with e0
      subst e0
      generalize numB (l.take j) = X at *
      generalize l.getD j 0 = y at *
      go_wp2_with fail
      refine ⟨⟨j + 1, by omega, ?_, (by congr 1), True.intro⟩, ?_⟩
      · rw [HS.out]; congr 1
      · simp only [intOf]; omega
    · obtain rfl : j = l.length := by omega
      rw [List.take_length]
      go_wp2_with fail
      go_ret
      exact ⟨rfl, rfl⟩
theorem OwnB.ofBlk {w : World} {base g : Nat} {l : List Nat} (hb : base ≤ g) (h : Blk w g 5 (vb l)) (hm : l.length ≤ maxLen) : OwnB w base (.slice (some ⟨g, 0, none⟩) l.length l.length) l :=
  ⟨by simp [byt_len], .inr ⟨g, l.length, _, rfl, hb, h, Nat.le_refl _, hm, by simp [vb, byt_len], List.take_of_length_le (by simp [vb, byt_len])⟩⟩
theorem high_top (j : Nat) : ∀ n, high n (j + 1) = (n / 256 ^ j % 256) :: high n j := by
  induction j with
  | zero => intro n; simp [high]
  | succ j ih =>
    intro n
    show high (n / 256) (j + 1) ++ [n % 256] = _
    rw [ih, Nat.div_div_eq_div_mul, Nat.pow_succ, Nat.mul_comm 256]
    rfl
/-- what is laid from the end -/
def hiZ (n k j : Nat) : List Nat := List.replicate (k - j) 0 ++ high n j
theorem hiZ_len (n k j : Nat) (h : j ≤ k) : (hiZ n k j).length = k := by simp [hiZ, high_len]; omega
theorem hiZ_zero (n k : Nat) : hiZ n k 0 = List.replicate k 0 := by simp [hiZ, high]
theorem hiZ_end (n k : Nat) : hiZ n k k = high n k := by simp [hiZ]
theorem hiZ_set (n k j : Nat) (h : j < k) : (hiZ n k j).set (k - 1 - j) (n / 256 ^ j % 256) = hiZ n k (j + 1) := by
  unfold hiZ
  rw [high_top, show k - j = (k - (j + 1)) + 1 by omega, List.replicate_succ', List.append_assoc, List.set_append_right _ _ (by simp; omega), List.length_replicate, show k - 1 - j - (k - (j + 1)) = 0 by omega]
  rfl
theorem make_by (k : Nat) (hk : k = 4 ∨ k = 8) (w : World) : (Instr.makeSlice 36 (.int .i64 (k : Int)) (.int .i64 (k : Int))).run Tryd.prog w = .ok (.slice (some ⟨w.heap.size, 0, none⟩) k k) (w.alloc (.cells (vb (List.replicate k 0)) 5)) := by
  rcases hk with rfl | rfl <;> kernel_rfl
set_option maxRecDepth 100000 in
set_option maxHeartbeats 1000000 in
theorem rhigh_c (n k : Nat) (w : World) (hn : n < 18446744073709551616) (hk : k = 4 ∨ k = 8) : Calls Tryd.prog 50 #[.int .u64 n, .int .i64 k] w (Gives (high n k) w) := by
  have hmk := make_by k hk
  have hk8 : 0 < k ∧ k ≤ 8 := by omega
  clear hk
  go_enter Tryd.func50, Tryd.ntmps50
  go_wp2_with fail
  obtain ⟨Z, hZ⟩ : ∃ Z, Z = w.alloc (Obj.cells (vb (List.replicate k 0)) 5) := ⟨_, rfl⟩
  have H0 := Lib.hid (show Below w.heap.size w Z ∧ Blk Z w.heap.size 5 (vb (hiZ n k 0)) by
    rw [hZ, hiZ_zero]
    exact ⟨(Below.refl _ _).alloc (Nat.le_refl _) _, Blk.new _ _ _⟩)
  rw [← hZ]
  clear hZ hmk
  go_loopw [0, 6] (fun v i wr => ∃ j : Nat, j ≤ k ∧ v = .int .u64 (n / 256 ^ j : Nat) ∧ i = .int .i64 ((k : Int) - 1 - j) ∧ Below w.heap.size w wr ∧ Blk wr w.heap.size 5 (vb (hiZ n k j))) (fun _ i _ => match i with | .int _ n => (n + 1).toNat | _ => 0)
  case atStart => exact ⟨0, by omega, by simp, by simp, H0.out.1, H0.out.2⟩
  case round =>
    rename World => wr
    obtain ⟨j, hj, rfl, rfl, hb, hk⟩ := hrel
    have HB := Lib.hid hb
    have HK := Lib.hid hk
    clear hb hk H0
    by_cases hlt : j < k
    · have hx : n / 256 ^ j < 18446744073709551616 := Nat.lt_of_le_of_lt (Nat.div_le_self _ _) hn
      have HS := Lib.hid (show n / 256 ^ (j + 1) = n / 256 ^ j / 256 by rw [Nat.pow_succ, Nat.div_div_eq_div_mul])
      have HZS := Lib.hid (hiZ_set n k j hlt)
      have eo := HK.out.cell (k - 1 - j)
      rw [vb_at _ _ (by rw [hiZ_len _ _ _ hj]; omega)] at eo
      have ef := HK.out.free (k - 1 - j)
      have et : ((k : Int) - 1 - j).toNat = k - 1 - j := by omega
      generalize n / 256 ^ j = X at *
      go_wp2_with fail
      refine ⟨⟨j + 1, by omega, ?_, ?_, HB.out.setCell (Nat.le_refl _) _, ?_⟩, ?_⟩
      · rw [HS.out]; congr 1
      · congr 1; omega
      · rw [← HZS.out, ← vb_set]
        exact HK.out.set_ _ _
      · show ((k : Int) - 1 - j - 1 + 1).toNat < ((k : Int) - 1 - j + 1).toNat
        omega
    · obtain rfl : j = k := by omega
      rw [hiZ_end] at HK
      go_wp2_with fail
      go_ret
      have ho := OwnB.ofBlk (base := w.heap.size) (Nat.le_refl _) HK.out (by rw [high_len]; simp [maxLen]; omega)
      rw [high_len] at ho
      exact ⟨_, rfl, ho, HB.out⟩
end Go.Proofs.YtbgnjjbmidkhlaaDoor
/- Contract: the document's fingerprint: lemmas. -/
namespace Go.Proofs.YtbgnjjbmidkhlaaDoor
set_option linter.unusedVariables false
set_option linter.unusedSimpArgs false
open Go.RowKit
set_option linter.unusedVariables false
set_option linter.unusedSimpArgs false
theorem wordInfo : (Tryd.prog.info? 61).map (fun i => (i.zero, i.size, i.bytes)) = some (some (.int .u32 0), 1, 4) := by kernel_rfl
theorem OwnB.open_ {w : World} {base : Nat} {v : Value} {l : List Nat} (h : OwnB w base v l) (hne : l ≠ []) : ∃ g cap rest, v = .slice (some ⟨g, 0, none⟩) l.length cap ∧ base ≤ g ∧ Blk w g 5 (byt l ++ rest).toArray ∧ l.length ≤ cap ∧ cap ≤ maxLen ∧ rest.length + l.length = cap := by
  rcases h.2 with ⟨_, h0⟩ | ⟨g, cap, cur, rfl, hb, hh, hn, hm, hc, ht⟩
  · exact absurd (List.eq_nil_of_length_eq_zero h0) hne
  · refine ⟨g, cap, cur.toList.drop l.length, rfl, hb, ?_, hn, hm, ?_⟩
    · rw [Nat.mul_one] at ht
      unfold Blk
      rw [hh, ← ht, List.take_append_drop]
    · rw [List.length_drop, Array.length_toList, hc]; omega
theorem OwnB.next {w w' : World} {base : Nat} {v : Value} {l : List Nat} (h : OwnB w base v l) (hb : Below w.heap.size w w') : OwnB w' base v l := own_keep (S := fun _ => False) h (Only.of_below hb) (fun _ _ h => h)
def OwnW (w : World) (base : Nat) (v : Value) (l : List Nat) : Prop := w.ownsRow base 61 1 v l.length (w32 l)
theorem OwnW.nil_ (w : World) (base : Nat) : OwnW w base (.slice none 0 0) [] := ⟨rfl, .inl ⟨rfl, rfl⟩⟩
theorem OwnW.rd {w : World} {base : Nat} {v : Value} {l : List Nat} (h : OwnW w base v l) : ∃ A cap, v = .slice A l.length cap ∧ l.length ≤ cap ∧ cap ≤ maxLen ∧ Rd w w.heap.size A (w32 l) := own_rd h
theorem OwnW.alloc {w : World} {base : Nat} {v : Value} {l : List Nat} (h : OwnW w base v l) (o : Obj) : OwnW (w.alloc o) base v l := World.ownsRow.alloc h o
theorem OwnW.drewN {w : World} {base : Nat} {v : Value} {l : List Nat} (h : OwnW w base v l) (n : Nat) : OwnW (w.drewN n) base v l := h
theorem OwnW.snoc {w w' : World} {base : Nat} {v v' : Value} {l : List Nat} {c : Nat} (h : Apped w base 61 1 v w' v' (l.length + 1) (w32 l ++ [.int .u32 (c : Int)])) : OwnW w' base v' (l ++ [c]) := by
  have := h.own
  simpa [OwnW, w32] using this
theorem w32_one (l : List Nat) : ∀ u ∈ w32 l, u.oneCell' = true := by
  intro u hu
  obtain ⟨n, _, rfl⟩ := List.mem_map.1 hu
  rfl
theorem w32_at {l : List Nat} {i : Nat} (h : i < l.length) : (w32 l)[i]? = some (.int .u32 (l.getD i 0 : Nat)) := by
  simp [w32, List.getD_eq_getElem?_getD, h]
theorem Rd.wordAt {w : World} {B : Nat} {A : Option Addr} {l : List Nat} (h : Rd w B A (w32 l)) (hn : 0 < l.length) :
    ∃ ad, A = some ad ∧ ad.block < B ∧ ∀ k, k < l.length → w.cell? (ad.add k) = some (.int .u32 (l.getD k 0 : Nat)) := by
  obtain ⟨ad, e, hb, hc⟩ := h (fun h0 => by have := w32_len l; rw [h0] at this; simp at this; omega)
  exact ⟨ad, e, hb, fun k hk => hc k _ (w32_at hk)⟩
theorem rd_oneW (w : World) (v : Value) : Rd (w.alloc (.cells #[v] 61)) (w.heap.size + 1) (some ⟨w.heap.size, 0, none⟩) [v] := rd_new w [v] _ (0, 0)
set_option maxRecDepth 100000 in
set_option maxHeartbeats 1000000 in
theorem rconst_c (w : World) : Calls Tryd.prog 51 #[] w fun e w' => e = .returned (.slice (some ⟨w.heap.size, 0, none⟩) 64 64) ∧ w' = w.alloc (.cells (vw kc) 61) := by
  go_enter Tryd.func51, Tryd.ntmps51
  go_wp2_with fail
  go_ret
  exact ⟨rfl, rfl⟩
theorem cells_of_blk {w : World} {g : Nat} {t : TypeId} {l : List Nat} {rest : List Value} (h : Blk w g t (byt l ++ rest).toArray) (i : Nat) (hi : i < l.length) : w.cell? ⟨g, i, none⟩ = some (.int .u8 (l.getD i 0 : Nat)) := by
  rw [h.cell, List.getElem?_toArray, List.getElem?_append_left (by rw [byt_len]; exact hi), byt_at hi]
theorem getD_four {L : List Nat} (h : L.length = 4) : L = [L.getD 0 0, L.getD 1 0, L.getD 2 0, L.getD 3 0] := by
  match L, h with
  | [a, b, c, d], _ => rfl
theorem num4_c (gp at0 i ca : Nat) (P CH : List Nat) (rest : List Value) (hi : i < 16) (hl : CH.length = 64) (hlt : ∀ c ∈ CH, c < 256) (hc : ∀ i, i < 64 → P.getD (at0 + i) 0 = CH.getD i 0) (hP : at0 + 64 ≤ P.length) (W : World) (hb : Blk W gp 5 (byt P ++ rest).toArray) :
    Calls Tryd.prog 52 #[.slice (some ⟨gp, at0 + 4 * i, none⟩) 4 ca] W fun e w' => e = .returned (.int .u64 (be4 CH i : Nat)) ∧ W = w' := by
  have h := hnumber_c (gp + 1) ⟨gp, at0 + 4 * i, none⟩ ca [CH.getD (4 * i) 0, CH.getD (4 * i + 1) 0, CH.getD (4 * i + 2) 0, CH.getD (4 * i + 3) 0] W (fun _ => ⟨_, rfl, Nat.lt_succ_self _, fun j u hu => by
    have hj : j < 4 := by
      rcases Nat.lt_or_ge j 4 with h1 | h1
      · exact h1
      · rw [List.getElem?_eq_none (by rw [byt_len]; exact h1)] at hu; cases hu
    rw [Addr.add_mid]
    rw [cells_of_blk hb (at0 + 4 * i + j) (by omega), show at0 + 4 * i + j = at0 + (4 * i + j) by omega, hc _ (by omega), ← hu]
    have hj3 : j = 0 ∨ j = 1 ∨ j = 2 ∨ j = 3 := by omega
    rcases hj3 with rfl | rfl | rfl | rfl <;> rfl⟩) (fun c hc => by
    simp only [List.mem_cons, List.not_mem_nil, or_false] at hc
    rcases hc with rfl | rfl | rfl | rfl <;> exact getD_lt hlt _) (by simp)
  have e : numB [CH.getD (4 * i) 0, CH.getD (4 * i + 1) 0, CH.getD (4 * i + 2) 0, CH.getD (4 * i + 3) 0] = be4 CH i := by
    show (((0 * 256 + CH.getD (4 * i) 0) * 256 + CH.getD (4 * i + 1) 0) * 256 + CH.getD (4 * i + 2) 0) * 256 + CH.getD (4 * i + 3) 0 = _
    rw [Nat.zero_mul, Nat.zero_add]
    rfl
  rw [e] at h
  exact h
def findL (n : Nat) : Code → Option Code
  | .seq a b => match findL n a with
    | some c => some c
    | none => findL n b
  | .loop a => findL n a
  | .block i a => if i == n then some a else findL n a
  | .scope a => findL n a
  | .cond _ a b => match findL n a with
    | some c => some c
    | none => findL n b
  | _ => none
noncomputable def lp (n : Nat) : Code := ((Tryd.f32.body.bind (findL n)).getD .skip)
theorem OwnW.next {w w' : World} {base : Nat} {v : Value} {l : List Nat} (h : OwnW w base v l) (hb : Below w.heap.size w w') : OwnW w' base v l := own_keep (S := fun _ => False) h (Only.of_below hb) (fun _ _ h => h)
theorem OwnW.new (w : World) (base : Nat) (l : List Nat) (hb : base ≤ w.heap.size) (hm : l.length ≤ maxLen) : OwnW (w.alloc (.cells (w32 l).toArray 61)) base (.slice (some ⟨w.heap.size, 0, none⟩) l.length l.length) l :=
  ⟨by simp [w32_len], .inr ⟨w.heap.size, l.length, _, rfl, hb, heapNew _ _, Nat.le_refl _, hm, by simp [w32_len], List.take_of_length_le (by simp [w32_len])⟩⟩
theorem run_oneW (w : World) (c : Nat) {o : Oper} {a : Act} (x : Operand) (ho : o.op = .buildSlice 77 1 #[(0, x)]) (hx : a.eval x = .int .u32 (c : Nat)) :
    (execOp a.eval o).run Tryd.prog w = .ok (.value (.slice (some ⟨w.heap.size, 0, none⟩) 1 1)) (w.alloc (.cells (w32 [c]).toArray 61)) := by
  obtain ⟨i0, hi, hz0, hz1, hz2⟩ := info_parts wordInfo
  have e1 : (#[(0, x)].map fun (p : Nat × Operand) => (p.1, a.eval p.2)).toList = (([Value.int .u32 (c : Nat)].zipIdx 0).map fun x => (x.2, x.1)) := by
    simp [hx]
  have h1 := run_buildSlice (P := Tryd.prog) w 77 61 1 (#[(0, x)].map fun (p : Nat × Operand) => (p.1, a.eval p.2)) (w32 [c]).toArray i0 _ Tryd.underlying77 hi hz0 (by rw [hz1]; decide) (by rw [hz1]; decide) (by
    rw [hz1]
    refine (congrArg _ e1).trans ?_
    exact (Great.fill_flat [Value.int .u32 (c : Nat)] _ (fun v hv => by rw [List.mem_singleton.1 hv]; rfl) (by simp)))
  unfold execOp
  simp only [ho, Sem.run_bind, h1, Result.andThen_ok]
  rfl
theorem cell_ext {Z : World} {a : Addr} {v : Value} (h : Z.cell? a = some v) : ∀ x : Ext Z, x.wd.cell? a = some v := fun x => x.cell h
theorem info_word : ∃ i4, Tryd.prog.info? 61 = some i4 ∧ i4.zero = some (.int .u32 0) ∧ i4.size = 1 ∧ i4.bytes = 4 := info_parts wordInfo
end Go.Proofs.YtbgnjjbmidkhlaaDoor
/- Digits of bytes: plain; a digit's value. -/
namespace Go.Proofs.YtbgnjjbmidkhlaaDoor
set_option linter.unusedVariables false
set_option linter.unusedSimpArgs false
open Go.RowKit
set_option linter.unusedVariables false
set_option linter.unusedSimpArgs false
def bstr (l : List Nat) : ByteArray := ⟨(l.map UInt8.ofNat).toArray⟩
theorem bstr_app (a b : List Nat) : bstr a ++ bstr b = bstr (a ++ b) := by
  unfold bstr
  rw [List.map_append]
  exact ByteArray.mk_append_mk _ _
theorem bstr_size (a : List Nat) : (bstr a).size = a.length := by simp [bstr, ByteArray.size]
/-- a string's bytes -/
def sbytes (s : ByteArray) : List Nat := s.data.toList.map (·.toNat)
theorem sbytes_lt (s : ByteArray) : ∀ c ∈ sbytes s, c < 256 := by
  intro c hc
  obtain ⟨u, _, rfl⟩ := List.mem_map.1 hc
  exact u.toNat_lt
theorem bstr_sbytes (s : ByteArray) : bstr (sbytes s) = s := by
  unfold bstr sbytes
  rw [List.map_map]
  have : (UInt8.ofNat ∘ fun u : UInt8 => u.toNat) = id := by funext u; simp
  rw [this, List.map_id]
theorem bstr_get {l : List Nat} (hl : ∀ c ∈ l, c < 256) {i : Nat} (h : i < l.length) (h' : i < (bstr l).size) : ((bstr l)[i]'h').toNat = l.getD i 0 := by
  have h1 := hl _ (List.getElem_mem h)
  have e : (bstr l)[i]'h' = UInt8.ofNat l[i] := by simp [bstr, ByteArray.getElem_eq_getElem_data]
  rw [e, List.getD_eq_getElem?_getD, List.getElem?_eq_getElem h, UInt8.toNat_ofNat']
  simp only [Option.getD_some]
  omega
theorem bstr_inj {a b : List Nat} (ha : ∀ c ∈ a, c < 256) (hb : ∀ c ∈ b, c < 256) (h : bstr a = bstr b) : a = b := by
  have hn : a.length = b.length := by rw [← bstr_size, ← bstr_size, h]
  refine List.ext_getElem hn fun i h1 h2 => ?_
  have e1 := bstr_get ha h1 (by rw [bstr_size]; exact h1)
  have e2 := bstr_get hb h2 (by rw [bstr_size]; exact h2)
  rw [List.getD_eq_getElem?_getD, List.getElem?_eq_getElem h1] at e1
  rw [List.getD_eq_getElem?_getD, List.getElem?_eq_getElem h2] at e2
  have e3 : ((bstr a)[i]'(by rw [bstr_size]; exact h1)).toNat = ((bstr b)[i]'(by rw [bstr_size]; exact h2)).toNat := by
    congr 1
    simp only [h]
  rw [e1, e2] at e3
  exact e3
theorem run_index_str (l : List Nat) (k : IntKind) (i : Nat) (w : World) (hl : ∀ c ∈ l, c < 256) (h : i < l.length) :
    (Instr.index 9 (.string (bstr l)) (.int k (i : Int))).run Tryd.prog w = .ok (.int .u8 (l.getD i 0 : Nat)) w := by
  have h1 := run_index_string (P := Tryd.prog) w 9 (bstr l) k (i : Int) Tryd.underlying9
  have h2 : 0 ≤ (i : Int) ∧ (i : Int) < ((bstr l).size : Int) := by rw [bstr_size]; omega
  rw [dif_pos h2] at h1
  rw [h1]
  have e : ((bstr l)[(i : Int).toNat]'(by omega)).toNat = l.getD i 0 := bstr_get hl h (by rw [bstr_size]; exact h)
  rw [e]
/-! digits -/
def hd (n : Nat) : Nat := if n < 10 then n + 48 else n + 87
theorem hd_lt {n : Nat} (h : n < 16) : hd n < 256 := by unfold hd; split <;> omega
def hexs (l : List Nat) : List Nat := l.flatMap fun c => [hd (c / 16), hd (c % 16)]
theorem hexs_len (l : List Nat) : (hexs l).length = 2 * l.length := by
  induction l with
  | nil => rfl
  | cons a l ih => simp only [hexs, List.flatMap_cons, List.length_append, List.length_cons, List.length_nil] at *; omega
theorem hexs_snoc (l : List Nat) (c : Nat) : hexs (l ++ [c]) = hexs l ++ [hd (c / 16), hd (c % 16)] := by simp [hexs]
theorem hexs_lt {l : List Nat} (h : ∀ c ∈ l, c < 256) : ∀ c ∈ hexs l, c < 256 := by
  intro c hc
  obtain ⟨x, hx, hc⟩ := List.mem_flatMap.1 hc
  have := h x hx
  simp only [List.mem_cons, List.not_mem_nil, or_false] at hc
  rcases hc with rfl | rfl
  · exact hd_lt (by omega)
  · exact hd_lt (by omega)
/-- a digit's value -/
def dv (c : Nat) : Option Nat := if 48 ≤ c ∧ c ≤ 57 then some (c - 48) else if 97 ≤ c ∧ c ≤ 102 then some (c - 87) else none
theorem dv_lt {c x : Nat} (h : dv c = some x) : x < 16 := by
  unfold dv at h
  split at h
  · injection h; omega
  · split at h
    · injection h; omega
    · cases h
theorem dv_hd {n : Nat} (h : n < 16) : dv (hd n) = some n := by
  have : ∀ n, n < 16 → dv (hd n) = some n := by decide
  exact this n h
def unh : List Nat → Option (List Nat)
  | [] => some []
  | [_] => none
  | a :: b :: r => match dv a, dv b, unh r with
    | some x, some y, some z => some ((x * 16 + y) :: z)
    | _, _, _ => none
theorem unh_hexs {l : List Nat} (h : ∀ c ∈ l, c < 256) : unh (hexs l) = some l := by
  induction l with
  | nil => rfl
  | cons a l ih =>
    have ha := h a (List.mem_cons_self ..)
    have e : hexs (a :: l) = hd (a / 16) :: hd (a % 16) :: hexs l := rfl
    rw [e, unh, dv_hd (by omega), dv_hd (by omega), ih (fun c hc => h c (List.mem_cons_of_mem _ hc))]
    show some ((a / 16 * 16 + a % 16) :: l) = _
    congr 2
    omega
theorem unh_odd : ∀ (l : List Nat), l.length % 2 = 1 → unh l = none
  | [], h => by cases h
  | [_], _ => rfl
  | a :: b :: r, h => by
    rw [unh, unh_odd r (by simp only [List.length_cons] at h; omega)]
    cases dv a <;> cases dv b <;> rfl
theorem unh_lt {l u : List Nat} (h : unh l = some u) : ∀ c ∈ u, c < 256 := by
  match l, h with
  | [], h => injection h with h; subst h; intro c hc; cases hc
  | [_], h => cases h
  | a :: b :: r, h =>
    rw [unh] at h
    cases ea : dv a with
    | none => rw [ea] at h; cases h
    | some x =>
      cases eb : dv b with
      | none => rw [ea, eb] at h; cases h
      | some y =>
        cases er : unh r with
        | none => rw [ea, eb, er] at h; cases h
        | some z =>
          rw [ea, eb, er] at h
          injection h with h
          subst h
          intro c hc
          rcases List.mem_cons.1 hc with rfl | hc
          · have := dv_lt ea; have := dv_lt eb; omega
          · exact unh_lt er c hc
theorem unh_len {l u : List Nat} (h : unh l = some u) : 2 * u.length = l.length := by
  match l, h with
  | [], h => injection h with h; subst h; rfl
  | [_], h => cases h
  | a :: b :: r, h =>
    rw [unh] at h
    cases ea : dv a with
    | none => rw [ea] at h; cases h
    | some x =>
      cases eb : dv b with
      | none => rw [ea, eb] at h; cases h
      | some y =>
        cases er : unh r with
        | none => rw [ea, eb, er] at h; cases h
        | some z =>
          rw [ea, eb, er] at h
          injection h with h
          subst h
          have := unh_len er
          simp only [List.length_cons]; omega
/-- one pair more, behind pairs that are read -/
theorem unh_app (p : List Nat) {u : List Nat} (hp : unh p = some u) (q : List Nat) : unh (p ++ q) = match unh q with | some z => some (u ++ z) | none => none := by
  match p, hp with
  | [], hp => injection hp with hp; subst hp; rw [List.nil_append]; cases unh q <;> rfl
  | [_], hp => cases hp
  | a :: b :: r, hp =>
    rw [unh] at hp
    cases ea : dv a with
    | none => rw [ea] at hp; cases hp
    | some x =>
      cases eb : dv b with
      | none => rw [ea, eb] at hp; cases hp
      | some y =>
        cases er : unh r with
        | none => rw [ea, eb, er] at hp; cases hp
        | some z =>
          rw [ea, eb, er] at hp
          injection hp with hp
          subst hp
          rw [List.cons_append, List.cons_append, unh, ea, eb, unh_app r er q]
          cases unh q <;> rfl
/-- at a pair in the middle -/
theorem unh_at (s : List Nat) (j : Nat) {u : List Nat} (hp : unh (s.take (2 * j)) = some u) (h : 2 * j + 1 < s.length) :
    (∀ x y, dv (s.getD (2 * j) 0) = some x → dv (s.getD (2 * j + 1) 0) = some y → unh (s.take (2 * (j + 1))) = some (u ++ [x * 16 + y])) ∧
    (dv (s.getD (2 * j) 0) = none ∨ dv (s.getD (2 * j + 1) 0) = none → unh s = none) := by
  have e0 : s.getD (2 * j) 0 = s[2 * j] := by rw [List.getD_eq_getElem?_getD, List.getElem?_eq_getElem (by omega)]; rfl
  have e1 : s.getD (2 * j + 1) 0 = s[2 * j + 1] := by rw [List.getD_eq_getElem?_getD, List.getElem?_eq_getElem h]; rfl
  have ed : s.drop (2 * j) = s[2 * j] :: s[2 * j + 1] :: s.drop (2 * j + 2) := by
    rw [List.drop_eq_getElem_cons (by omega), List.drop_eq_getElem_cons h]
  rw [e0, e1]
  constructor
  · intro x y hx hy
    have et : s.take (2 * (j + 1)) = s.take (2 * j) ++ [s[2 * j], s[2 * j + 1]] := by
      rw [show 2 * (j + 1) = 2 * j + 1 + 1 by omega, List.take_add_one, List.take_add_one, List.getElem?_eq_getElem h, List.getElem?_eq_getElem (by omega), List.append_assoc]
      rfl
    rw [et, unh_app _ hp, unh, hx, hy]
    rfl
  · intro hn
    rw [← List.take_append_drop (2 * j) s, unh_app _ hp, ed, unh]
    rcases hn with hn | hn
    · rw [hn]
    · rw [hn]; cases dv s[2 * j] <;> rfl
theorem digits_at (n : Nat) (h : n < 16) : [48, 49, 50, 51, 52, 53, 54, 55, 56, 57, 97, 98, 99, 100, 101, 102].getD n 0 = hd n := by
  have : ∀ n, n < 16 → [48, 49, 50, 51, 52, 53, 54, 55, 56, 57, 97, 98, 99, 100, 101, 102].getD n 0 = hd n := by decide
  exact this n h
theorem digit_cut (n : Nat) (h : n < 16) : (ByteArray.mk #[48, 49, 50, 51, 52, 53, 54, 55, 56, 57, 97, 98, 99, 100, 101, 102]).extract n (n + 1) = bstr [hd n] := by
  have : ∀ n, n < 16 → (ByteArray.mk #[48, 49, 50, 51, 52, 53, 54, 55, 56, 57, 97, 98, 99, 100, 101, 102]).extract n (n + 1) = bstr [hd n] := by decide
  exact this n h
theorem run_digit (n : Nat) (k : IntKind) (w : World) (h : n < 16) : (Instr.index 9 (.string (ByteArray.mk #[48, 49, 50, 51, 52, 53, 54, 55, 56, 57, 97, 98, 99, 100, 101, 102])) (.int k (n : Int))).run Tryd.prog w = .ok (.int .u8 (hd n : Nat)) w := by
  have h1 := run_index_str [48, 49, 50, 51, 52, 53, 54, 55, 56, 57, 97, 98, 99, 100, 101, 102] k n w (by decide) h
  rw [digits_at n h] at h1
  exact h1
/-! the contracts of a digit -/
def dvV (c : Nat) : Value := match dv c with
  | some x => .tuple #[.int .u8 (x : Nat), .bool true]
  | none => .tuple #[.int .u8 0, .bool false]
end Go.Proofs.YtbgnjjbmidkhlaaDoor
/- Contract: the digits of bytes. -/
namespace Go.Proofs.YtbgnjjbmidkhlaaDoor
set_option linter.unusedVariables false
set_option linter.unusedSimpArgs false
open Go.RowKit
set_option linter.unusedVariables false
set_option linter.unusedSimpArgs false
theorem u8_and15 (c : Nat) (h : c < 256) : bits BinOp.and .u8 (c : Int) 15 = ((c % 16 : Nat) : Int) := by
  have h63 : (BitVec.ofInt 8 15).toNat = 2 ^ 4 - 1 := by decide
  have key : (BitVec.ofInt 8 c &&& BitVec.ofInt 8 15).toNat = ((c : Int) % ((2 ^ 8 : Nat) : Int)).toNat % 2 ^ 4 := by
    rw [BitVec.toNat_and, BitVec.toNat_ofInt, h63, Nat.and_two_pow_sub_one_eq_mod]
  show IntKind.u8.wrap ((BitVec.ofInt 8 c &&& BitVec.ofInt 8 15).toNat : Nat) = ((c % 16 : Nat) : Int)
  rw [key]
  simp [IntKind.wrap, IntKind.signed, IntKind.bits]
  omega
theorem convZ (w : World) (A : Option Addr) (c : Nat) : (convert 36 9 (.slice A 0 c)).run Tryd.prog w = .ok (.string (bstr [])) w := by
  rw [run_convert_bytes_string w 36 9 5 A 0 c Tryd.underlying36 Tryd.underlying5 Tryd.underlying9]
  cases A <;> simp [Conv.bytesToString, loadCells]
  all_goals rfl
theorem run_two (w : World) (a b : Nat) {o : Oper} {f : Act} (x y : Operand) (ho : o.op = .buildSlice 36 2 #[(0, x), (1, y)]) (hx : f.eval x = .int .u8 (a : Nat)) (hy : f.eval y = .int .u8 (b : Nat)) :
    (execOp f.eval o).run Tryd.prog w = .ok (.value (.slice (some ⟨w.heap.size, 0, none⟩) 2 2)) (w.alloc (.cells (byt [a, b]).toArray 5)) := by
  obtain ⟨i0, hi, hz0, hz1, hz2⟩ := info_parts byteInfo
  have e1 : (#[(0, x), (1, y)].map fun (p : Nat × Operand) => (p.1, f.eval p.2)).toList = (([Value.int .u8 (a : Nat), Value.int .u8 (b : Nat)].zipIdx 0).map fun x => (x.2, x.1)) := by
    simp [hx, hy]
  have h1 := run_buildSlice (P := Tryd.prog) w 36 5 2 (#[(0, x), (1, y)].map fun (p : Nat × Operand) => (p.1, f.eval p.2)) (byt [a, b]).toArray i0 _ Tryd.underlying36 hi hz0 (by rw [hz1]; decide) (by rw [hz1]; decide) (by
    rw [hz1]
    refine (congrArg _ e1).trans ?_
    exact (Great.fill_flat [Value.int .u8 (a : Nat), Value.int .u8 (b : Nat)] _ (fun v hv => by
      simp only [List.mem_cons, List.not_mem_nil, or_false] at hv
      rcases hv with rfl | rfl <;> rfl) (by simp)))
  unfold execOp
  simp only [ho, Sem.run_bind, h1, Result.andThen_ok]
  rfl
theorem conv_c (w : World) (g cap : Nat) (l : List Nat) (rest : List Value) (hb : Blk w g 5 (byt l ++ rest).toArray) (hl : ∀ c ∈ l, c < 256) :
    (convert 36 9 (.slice (some ⟨g, 0, none⟩) l.length cap)).run Tryd.prog w = .ok (.string (bstr l)) w := by
  have h := run_convert_bytes_back (P := Tryd.prog) w 36 9 5 ⟨g, 0, none⟩ cap (l.map UInt8.ofNat) Tryd.underlying36 Tryd.underlying5 Tryd.underlying9 (fun j hj => by
    have hj' : j < l.length := by simpa using hj
    have e1 : (Addr.add ⟨g, 0, none⟩ j) = ⟨g, j, none⟩ := by
      cases j <;> simp [Addr.add]
    rw [e1, cells_of_blk hb j hj']
    have hlt := hl _ (List.getElem_mem hj')
    simp [List.getD_eq_getElem?_getD, hj']
    omega)
  rw [List.length_map] at h
  exact h
theorem convB {w : World} {base : Nat} {v : Value} {l : List Nat} (h : OwnB w base v l) (hl : ∀ c ∈ l, c < 256) (hne : l ≠ []) : (convert 36 9 v).run Tryd.prog w = .ok (.string (bstr l)) w := by
  obtain ⟨g, cap, rest, rfl, _, hb, _⟩ := h.open_ hne
  exact conv_c w g cap l rest hb hl
theorem run_cut_digit (n : Nat) (w : World) (h : n < 16) : (Instr.slice 9 (.string (ByteArray.mk #[48, 49, 50, 51, 52, 53, 54, 55, 56, 57, 97, 98, 99, 100, 101, 102])) (some (.int .u8 (n : Int))) (some (.int .u8 ((n : Int) + 1))) none).run Tryd.prog w = .ok (.string (bstr [hd n])) w := by
  have h1 := run_slice_string (P := Tryd.prog) w 9 (ByteArray.mk #[48, 49, 50, 51, 52, 53, 54, 55, 56, 57, 97, 98, 99, 100, 101, 102]) .u8 .u8 (n : Int) ((n : Int) + 1) Tryd.underlying9 (by omega) (by omega) (by show ((n : Int) + 1) ≤ ((16 : Nat) : Int); omega)
  rw [h1, show ((n : Int) + 1).toNat = n + 1 by omega, Int.toNat_natCast, digit_cut n h]
end Go.Proofs.YtbgnjjbmidkhlaaDoor
/- A ring's points, and which nodes come first: plain. -/
namespace Go.Proofs.YtbgnjjbmidkhlaaDoor
set_option linter.unusedVariables false
set_option linter.unusedSimpArgs false
set_option linter.unusedVariables false
theorem nodup_le : ∀ (n : Nat) (l : List Nat), l.Nodup → (∀ x ∈ l, x < n) → l.length ≤ n
  | 0, l, _, h => by
    cases l with
    | nil => simp
    | cons a l => exact absurd (h a (List.mem_cons_self ..)) (by omega)
  | n + 1, l, hd, h => by
    by_cases hn : n ∈ l
    · have h1 := nodup_le n (l.erase n) (hd.erase n) (fun x hx => by
        have h2 := (List.Nodup.mem_erase_iff hd).1 hx
        have := h x h2.2
        omega)
      rw [List.length_erase_of_mem hn] at h1
      omega
    · have := nodup_le n l hd (fun x hx => by
        have h2 := h x hx
        have h3 : x ≠ n := fun e => hn (e ▸ hx)
        omega)
      omega
theorem nodup_all {n : Nat} {l : List Nat} (hd : l.Nodup) (h : ∀ x ∈ l, x < n) (hl : n ≤ l.length) : ∀ x, x < n → x ∈ l := fun x hx => by
  by_cases hm : x ∈ l
  · exact hm
  · have := nodup_le n (x :: l) (List.nodup_cons.2 ⟨hm, hd⟩) (fun y hy => by
      rcases List.mem_cons.1 hy with rfl | hy
      · exact hx
      · exact h y hy)
    simp only [List.length_cons] at this
    omega
theorem nodup_sub : ∀ (l m : List Nat), l.Nodup → (∀ x ∈ l, x ∈ m) → l.length ≤ m.length
  | [], m, _, _ => by simp
  | a :: l, m, hd, h => by
    obtain ⟨h1, h2⟩ := List.nodup_cons.1 hd
    have ha := h a (List.mem_cons_self ..)
    have := nodup_sub l (m.erase a) h2 (fun x hx => by
      have hne : x ≠ a := fun e => h1 (e ▸ hx)
      exact (List.mem_erase_of_ne hne).2 (h x (List.mem_cons_of_mem _ hx)))
    rw [List.length_erase_of_mem ha] at this
    have h0 : 0 < m.length := List.length_pos_of_mem ha
    simp only [List.length_cons]
    omega
abbrev Pt := Nat × Nat
def ptLe (p q : Pt) : Prop := p.1 < q.1 ∨ (p.1 = q.1 ∧ p.2 ≤ q.2)
def SortR (L : List Pt) : Prop := L.Pairwise ptLe
def two64 : Nat := 18446744073709551616
/-- the way from a place to a point, round the ring -/
def dst (at_ a : Nat) : Nat := if at_ ≤ a then a - at_ else a + 18446744073709551616 - at_
def near (at_ : Nat) (p q : Pt) : Prop := dst at_ p.1 < dst at_ q.1 ∨ (dst at_ p.1 = dst at_ q.1 ∧ p.2 ≤ q.2)
def fromL (at_ : Nat) (L : List Pt) : Nat := L.countP fun p => decide (p.1 < at_)
def rotL (at_ : Nat) (L : List Pt) : List Pt := L.drop (fromL at_ L) ++ L.take (fromL at_ L)
theorem sort_none {at_ : Nat} {p : Pt} {L : List Pt} (h : SortR (p :: L)) (hp : ¬ p.1 < at_) : fromL at_ (p :: L) = 0 := by
  unfold fromL
  rw [List.countP_eq_zero]
  obtain ⟨h1, _⟩ := List.pairwise_cons.1 h
  intro q hq
  rw [decide_eq_true_iff]
  rcases List.mem_cons.1 hq with rfl | hq
  · exact hp
  · have := h1 q hq
    unfold ptLe at this
    omega
theorem cut_sort {at_ : Nat} : ∀ {L : List Pt}, SortR L → (∀ p ∈ L.take (fromL at_ L), p.1 < at_) ∧ (∀ p ∈ L.drop (fromL at_ L), at_ ≤ p.1)
  | [], _ => by simp
  | p :: L, h => by
    by_cases hp : p.1 < at_
    · have e : fromL at_ (p :: L) = fromL at_ L + 1 := by unfold fromL; rw [List.countP_cons]; simp [hp]
      have ih := cut_sort (at_ := at_) (L := L) (List.pairwise_cons.1 h).2
      rw [e]
      refine ⟨fun q hq => ?_, fun q hq => ih.2 q hq⟩
      rcases List.mem_cons.1 hq with rfl | hq
      · exact hp
      · exact ih.1 q hq
    · have e := sort_none h hp
      rw [e]
      refine ⟨fun q hq => by simp at hq, fun q hq => ?_⟩
      have hq' : q ∈ p :: L := hq
      obtain ⟨h1, _⟩ := List.pairwise_cons.1 h
      rcases List.mem_cons.1 hq' with rfl | hq'
      · omega
      · have := h1 q hq'; unfold ptLe at this; omega
theorem rot_sorted {at_ : Nat} {L : List Pt} (h : SortR L) (ha : at_ < 18446744073709551616) (hL : ∀ p ∈ L, p.1 < 18446744073709551616) : (rotL at_ L).Pairwise (near at_) := by
  obtain ⟨h1, h2⟩ := cut_sort (at_ := at_) h
  unfold rotL
  rw [List.pairwise_append]
  refine ⟨?_, ?_, ?_⟩
  · refine List.Pairwise.imp_of_mem (fun {p q} hp hq hpq => ?_) (List.Pairwise.sublist (List.drop_sublist _ _) h)
    have := h2 p hp; have := h2 q hq
    unfold ptLe at hpq; unfold near dst
    rw [if_pos (by omega), if_pos (by omega)]
    omega
  · refine List.Pairwise.imp_of_mem (fun {p q} hp hq hpq => ?_) (List.Pairwise.sublist (List.take_sublist _ _) h)
    have := h1 p hp; have := h1 q hq
    unfold ptLe at hpq; unfold near dst
    rw [if_neg (by omega), if_neg (by omega)]
    omega
  · intro p hp q hq
    have e1 := h2 p hp; have e2 := h1 q hq
    have e3 := hL p (List.mem_of_mem_drop hp)
    unfold near dst
    rw [if_pos (by omega), if_neg (by omega)]
    omega
theorem mem_rot {at_ : Nat} {L : List Pt} {p : Pt} : p ∈ rotL at_ L ↔ p ∈ L := by
  unfold rotL
  rw [List.mem_append]
  constructor
  · rintro (h | h)
    · exact List.mem_of_mem_drop h
    · exact List.mem_of_mem_take h
  · intro h
    rw [← List.take_append_drop (fromL at_ L) L] at h
    exact (List.mem_append.1 h).symm
/-- the first k unlike nodes -/
def firsts (k : Nat) (out : List Nat) : List Pt → List Nat
  | [] => out
  | p :: l => if out.contains p.2 then firsts k out l else if (out ++ [p.2]).length = k then out ++ [p.2] else firsts k (out ++ [p.2]) l
def fresh (out : List Nat) (p : Pt) : Bool := !out.contains p.2
theorem firsts_skip (k : Nat) (out : List Nat) : ∀ (a b : List Pt), (∀ p ∈ a, p.2 ∈ out) → firsts k out (a ++ b) = firsts k out b
  | [], b, _ => rfl
  | p :: a, b, h => by
    rw [List.cons_append, firsts, if_pos (by rw [List.contains_iff_mem]; exact h p (List.mem_cons_self ..))]
    exact firsts_skip k out a b (fun q hq => h q (List.mem_cons_of_mem _ hq))
theorem firsts_find (k : Nat) (out : List Nat) (R : List Pt) : firsts k out R = match R.find? (fresh out) with
    | none => out
    | some p => if (out ++ [p.2]).length = k then out ++ [p.2] else firsts k (out ++ [p.2]) R := by
  have key : ∀ (b a : List Pt), (∀ p ∈ a, p.2 ∈ out) → R = a ++ b → firsts k out b = match b.find? (fresh out) with
    | none => out
    | some p => if (out ++ [p.2]).length = k then out ++ [p.2] else firsts k (out ++ [p.2]) R := by
    intro b
    induction b with
    | nil => intro a ha hR; rfl
    | cons p b ih =>
      intro a ha hR
      rw [firsts, List.find?_cons]
      by_cases hm : p.2 ∈ out
      · rw [if_pos (by rw [List.contains_iff_mem]; exact hm)]
        have hf : fresh out p = false := by unfold fresh; rw [Bool.not_eq_false', List.contains_iff_mem]; exact hm
        rw [hf]
        refine ih (a ++ [p]) (fun q hq => ?_) (by rw [hR]; simp)
        rcases List.mem_append.1 hq with hq | hq
        · exact ha q hq
        · rw [List.mem_singleton.1 hq]; exact hm
      · rw [if_neg (by rw [List.contains_iff_mem]; exact hm)]
        have hf : fresh out p = true := by
          unfold fresh
          cases hc : out.contains p.2 with
          | false => rfl
          | true => exact absurd (List.contains_iff_mem.1 hc) hm
        rw [hf]
        simp only
        by_cases hk : (out ++ [p.2]).length = k
        · rw [if_pos hk, if_pos hk]
        · rw [if_neg hk, if_neg hk, hR]
          rw [show a ++ p :: b = (a ++ [p]) ++ b by simp]
          rw [firsts_skip k (out ++ [p.2]) (a ++ [p]) b (fun q hq => by
            rcases List.mem_append.1 hq with hq | hq
            · exact List.mem_append_left _ (ha q hq)
            · rw [List.mem_singleton.1 hq]; simp)]
  exact key R [] (by simp) rfl
/-- the document's search for the nearest point of a node that isn't there yet -/
def better1 (at_ : Nat) (p : Pt) : Option Pt → Option Pt
  | none => some (dst at_ p.1, p.2)
  | some fb => if dst at_ p.1 < fb.1 then some (dst at_ p.1, p.2) else some fb
def scan (at_ : Nat) (out : List Nat) : List Pt → Option Pt → Option Pt
  | [], acc => acc
  | p :: l, acc => scan at_ out l (if out.contains p.2 then acc else better1 at_ p acc)
/-- whom the search has found: the least way, of the first node -/
def IsNear (at_ : Nat) (out : List Nat) (S : List Pt) (r : Option Pt) : Prop := match r with
  | none => ∀ p ∈ S, p.2 ∈ out
  | some fb => (∃ p ∈ S, p.2 ∉ out ∧ dst at_ p.1 = fb.1 ∧ p.2 = fb.2) ∧ ∀ p ∈ S, p.2 ∉ out → fb.1 < dst at_ p.1 ∨ (fb.1 = dst at_ p.1 ∧ fb.2 ≤ p.2)
theorem scan_near (at_ : Nat) (out : List Nat) : ∀ (l pre : List Pt) (acc : Option Pt), (pre ++ l).Pairwise (fun p q => p.2 ≤ q.2) → IsNear at_ out pre acc → IsNear at_ out (pre ++ l) (scan at_ out l acc)
  | [], pre, acc, _, h => by rw [List.append_nil]; exact h
  | p :: l, pre, acc, hs, h => by
    rw [scan]
    have e : pre ++ p :: l = (pre ++ [p]) ++ l := by simp
    rw [e] at hs ⊢
    refine scan_near at_ out l (pre ++ [p]) _ hs ?_
    have hpre : ∀ q ∈ pre, q.2 ≤ p.2 := fun q hq => ((List.pairwise_append.1 (List.pairwise_append.1 hs).1).2.2 q hq p (by simp))
    by_cases hm : p.2 ∈ out
    · rw [if_pos (by rw [List.contains_iff_mem]; exact hm)]
      cases acc with
      | none =>
        intro q hq
        rcases List.mem_append.1 hq with hq | hq
        · exact h q hq
        · rw [List.mem_singleton.1 hq]; exact hm
      | some fb =>
        obtain ⟨⟨q0, a1, a2, a3⟩, a4⟩ := h
        refine ⟨⟨q0, List.mem_append_left _ a1, a2, a3⟩, fun q hq hqo => ?_⟩
        rcases List.mem_append.1 hq with hq | hq
        · exact a4 q hq hqo
        · rw [List.mem_singleton.1 hq] at hqo; exact absurd hm hqo
    · rw [if_neg (by rw [List.contains_iff_mem]; exact hm)]
      cases acc with
      | none =>
        refine ⟨⟨p, by simp, hm, rfl, rfl⟩, fun q hq hqo => ?_⟩
        rcases List.mem_append.1 hq with hq | hq
        · exact absurd (h q hq) hqo
        · rw [List.mem_singleton.1 hq]; exact .inr ⟨rfl, Nat.le_refl _⟩
      | some fb =>
        obtain ⟨⟨q0, a1, a2, a3, a5⟩, a4⟩ := h
        rw [better1]
        by_cases hd : dst at_ p.1 < fb.1
        · rw [if_pos hd]
          refine ⟨⟨p, by simp, hm, rfl, rfl⟩, fun q hq hqo => ?_⟩
          rcases List.mem_append.1 hq with hq | hq
          · have := a4 q hq hqo
            left
            simp only
            omega
          · rw [List.mem_singleton.1 hq]; exact .inr ⟨rfl, Nat.le_refl _⟩
        · rw [if_neg hd]
          refine ⟨⟨q0, List.mem_append_left _ a1, a2, a3, a5⟩, fun q hq hqo => ?_⟩
          rcases List.mem_append.1 hq with hq | hq
          · exact a4 q hq hqo
          · rw [List.mem_singleton.1 hq]
            have := hpre q0 a1
            omega
theorem find_near {at_ : Nat} {out : List Nat} {R S : List Pt} (hR : R.Pairwise (near at_)) (hm : ∀ p, p ∈ R ↔ p ∈ S) {r : Option Pt} (h : IsNear at_ out S r) : (R.find? (fresh out)).map (·.2) = r.map (·.2) := by
  cases hf : R.find? (fresh out) with
  | none =>
    rw [List.find?_eq_none] at hf
    cases r with
    | none => rfl
    | some fb =>
      obtain ⟨⟨q0, a1, a2, _⟩, _⟩ := h
      have := hf q0 ((hm q0).2 a1)
      unfold fresh at this
      rw [Bool.not_eq_true, Bool.not_eq_false', List.contains_iff_mem] at this
      exact absurd this a2
  | some p =>
    have hp := List.find?_some hf
    have hpm := List.mem_of_find?_eq_some hf
    have hpo : p.2 ∉ out := fun hc => by
      unfold fresh at hp
      rw [Bool.not_eq_true'] at hp
      rw [List.contains_iff_mem.2 hc] at hp
      cases hp
    cases r with
    | none => exact absurd (h p ((hm p).1 hpm)) hpo
    | some fb =>
      obtain ⟨⟨q0, a1, a2, a3, a5⟩, a4⟩ := h
      have b1 := a4 p ((hm p).1 hpm) hpo
      -- p is the first one in R that is fresh
      have b2 : near at_ p q0 ∨ p = q0 := by
        obtain ⟨as1, bs1, e, has⟩ := (List.find?_eq_some_iff_append.1 hf).2
        have hq : q0 ∈ R := (hm q0).2 a1
        rw [e] at hq hR
        rcases List.mem_append.1 hq with hq | hq
        · have := has q0 hq
          unfold fresh at this
          simp only [Bool.not_not] at this
          exact absurd (List.contains_iff_mem.1 this) a2
        · rcases List.mem_cons.1 hq with rfl | hq
          · exact .inr rfl
          · exact .inl ((List.pairwise_cons.1 (List.pairwise_append.1 hR).2.1).1 q0 hq)
      show some p.2 = some fb.2
      congr 1
      rcases b2 with b2 | rfl
      · unfold near at b2
        omega
      · exact a5
/-- the document's nodes: each time the nearest one's, as long as there are fewer than three, and than nodes -/
def refN (at_ n : Nat) (S : List Pt) : Nat → List Nat → List Nat
  | 0, out => out
  | k + 1, out => if out.length < 3 ∧ out.length < n then match scan at_ out S none with
      | some fb => refN at_ n S k (out ++ [fb.2])
      | none => out
    else out
theorem firsts_done {k : Nat} {out : List Nat} {R : List Pt} (h : ∀ p ∈ R, p.2 ∈ out) : firsts k out R = out := by
  have := firsts_skip k out R [] h
  rw [List.append_nil] at this
  rw [this]; rfl
theorem ref_firsts {at_ n : Nat} {R S : List Pt} (hR : R.Pairwise (near at_)) (hm : ∀ p, p ∈ R ↔ p ∈ S) (hS : S.Pairwise (fun p q => p.2 ≤ q.2)) (hn : ∀ p ∈ S, p.2 < n) (hall : ∀ x, x < n → ∃ p ∈ S, p.2 = x) :
    ∀ (k : Nat) (out : List Nat), out.Nodup → (∀ x ∈ out, x < n) → out.length < 3 → 3 ≤ out.length + k → refN at_ n S k out = firsts 3 out R := by
  intro k
  induction k with
  | zero => intro out _ _ h1 h2; omega
  | succ k ih =>
    intro out hd ho h1 h2
    rw [refN]
    have hnear : IsNear at_ out S (scan at_ out S none) := by
      have := scan_near at_ out S [] none (by simpa using hS) (by intro q hq; cases hq)
      simpa using this
    have hf := find_near hR hm hnear
    rw [firsts_find]
    by_cases hl : out.length < n
    · rw [if_pos ⟨h1, hl⟩]
      cases hsc : scan at_ out S none with
      | none =>
        rw [hsc] at hnear
        exfalso
        have : ∀ x, x < n → x ∈ out := fun x hx => by
          obtain ⟨p, hp, rfl⟩ := hall x hx
          exact hnear p hp
        have h3 := nodup_sub (List.range n) out List.nodup_range (fun x hx => this x (List.mem_range.1 hx))
        rw [List.length_range] at h3
        omega
      | some fb =>
        rw [hsc] at hf hnear
        obtain ⟨⟨q0, a1, a2, a3, a5⟩, _⟩ := hnear
        cases hfd : R.find? (fresh out) with
        | none => rw [hfd] at hf; cases hf
        | some p =>
          rw [hfd] at hf
          simp only [Option.map_some, Option.some.injEq] at hf
          simp only
          rw [hf]
          by_cases h3 : (out ++ [fb.2]).length = 3
          · rw [if_pos h3]
            cases k with
            | zero => rfl
            | succ k => rw [refN, if_neg (by rw [h3]; omega)]
          · rw [if_neg h3]
            have hlen : (out ++ [fb.2]).length = out.length + 1 := by simp
            refine ih _ ?_ ?_ (by omega) (by omega)
            · rw [List.nodup_append]
              refine ⟨hd, by simp, fun a ha b hb e => ?_⟩
              rw [List.mem_singleton] at hb
              subst hb e
              exact a2 (a5 ▸ ha)
            · intro x hx
              rcases List.mem_append.1 hx with hx | hx
              · exact ho x hx
              · rw [List.mem_singleton.1 hx, ← a5]; exact hn q0 a1
    · rw [if_neg (fun h => hl h.2)]
      have hall2 := nodup_all hd ho (by omega)
      have hnone : R.find? (fresh out) = none := by
        rw [List.find?_eq_none]
        intro p hp
        unfold fresh
        rw [List.contains_iff_mem.2 (hall2 p.2 (hn p ((hm p).1 hp)))]
        simp
      rw [hnone]
/-! one node more -/
theorem rot_eq {at_ : Nat} {L : List Pt} (h : SortR L) : rotL at_ L = (L.filter fun p => decide (at_ ≤ p.1)) ++ L.filter fun p => decide (p.1 < at_) := by
  obtain ⟨h1, h2⟩ := cut_sort (at_ := at_) h
  unfold rotL
  have e : L = L.take (fromL at_ L) ++ L.drop (fromL at_ L) := (List.take_append_drop _ _).symm
  generalize L.take (fromL at_ L) = A at *
  generalize L.drop (fromL at_ L) = B at *
  rw [e, List.filter_append, List.filter_append]
  have f1 : A.filter (fun p => decide (at_ ≤ p.1)) = [] := by
    rw [List.filter_eq_nil_iff]; intro p hp; have := h1 p hp; simp; omega
  have f2 : B.filter (fun p => decide (at_ ≤ p.1)) = B := by
    rw [List.filter_eq_self]; intro p hp; have := h2 p hp; simp; omega
  have f3 : A.filter (fun p => decide (p.1 < at_)) = A := by
    rw [List.filter_eq_self]; intro p hp; have := h1 p hp; simp; omega
  have f4 : B.filter (fun p => decide (p.1 < at_)) = [] := by
    rw [List.filter_eq_nil_iff]; intro p hp; have := h2 p hp; simp; omega
  rw [f1, f2, f3, f4]
  simp
theorem rot_filter {at_ : Nat} {L : List Pt} (h : SortR L) (f : Pt → Bool) : rotL at_ (L.filter f) = (rotL at_ L).filter f := by
  rw [rot_eq h, rot_eq (List.Pairwise.sublist List.filter_sublist h), List.filter_append, List.filter_filter, List.filter_filter, List.filter_filter, List.filter_filter]
  congr 1
  · congr 1; funext p; exact Bool.and_comm ..
  · congr 1; funext p; exact Bool.and_comm ..
theorem sortR_perm {L M : List Pt} (h1 : SortR L) (h2 : SortR M) (hp : L.Perm M) : L = M :=
  List.Perm.eq_of_pairwise (le := ptLe) (fun a b _ _ h h' => by
    unfold ptLe at h h'
    obtain ⟨a1, a2⟩ := a
    obtain ⟨b1, b2⟩ := b
    simp only at h h'
    have e1 : a1 = b1 := by omega
    have e2 : a2 = b2 := by omega
    rw [e1, e2]) h1 h2 hp
/-- each node where it comes first -/
def uniq (out : List Nat) : List Pt → List Nat
  | [] => []
  | p :: l => if out.contains p.2 then uniq out l else p.2 :: uniq (out ++ [p.2]) l
theorem firsts_uniq (k : Nat) : ∀ (R : List Pt) (out : List Nat), out.length < k → firsts k out R = (out ++ uniq out R).take k
  | [], out, h => by rw [firsts, uniq, List.append_nil, List.take_of_length_le (by omega)]
  | p :: R, out, h => by
    rw [firsts, uniq]
    by_cases hc : out.contains p.2 = true
    · rw [if_pos hc, if_pos hc]; exact firsts_uniq k R out h
    · rw [if_neg hc, if_neg hc]
      have e : out ++ p.2 :: uniq (out ++ [p.2]) R = (out ++ [p.2]) ++ uniq (out ++ [p.2]) R := by simp
      have hl : (out ++ [p.2]).length = out.length + 1 := by simp
      rw [e]
      by_cases h2 : (out ++ [p.2]).length = k
      · rw [if_pos h2, List.take_append_of_le_length (by omega), List.take_of_length_le (by omega)]
      · rw [if_neg h2]; exact firsts_uniq k R _ (by omega)
theorem uniq_mem : ∀ (R : List Pt) (out : List Nat) (x : Nat), x ∈ uniq out R ↔ (x ∉ out ∧ ∃ p ∈ R, p.2 = x)
  | [], out, x => by simp [uniq]
  | p :: R, out, x => by
    rw [uniq]
    by_cases hc : out.contains p.2 = true
    · rw [if_pos hc, uniq_mem R out x]
      rw [List.contains_iff_mem] at hc
      constructor
      · rintro ⟨h1, q, hq, e⟩; exact ⟨h1, q, List.mem_cons_of_mem _ hq, e⟩
      · rintro ⟨h1, q, hq, e⟩
        rcases List.mem_cons.1 hq with rfl | hq
        · exact absurd (e ▸ hc) h1
        · exact ⟨h1, q, hq, e⟩
    · rw [if_neg hc, List.mem_cons, uniq_mem R _ x]
      rw [List.contains_iff_mem] at hc
      constructor
      · rintro (rfl | ⟨h1, q, hq, e⟩)
        · exact ⟨hc, p, List.mem_cons_self .., rfl⟩
        · exact ⟨fun h => h1 (List.mem_append_left _ h), q, List.mem_cons_of_mem _ hq, e⟩
      · rintro ⟨h1, q, hq, e⟩
        by_cases hx : x = p.2
        · exact .inl hx
        · right
          refine ⟨fun h => ?_, ?_⟩
          · rcases List.mem_append.1 h with h | h
            · exact h1 h
            · exact hx (List.mem_singleton.1 h)
          · rcases List.mem_cons.1 hq with rfl | hq
            · exact absurd e.symm hx
            · exact ⟨q, hq, e⟩
theorem uniq_nodup : ∀ (R : List Pt) (out : List Nat), (uniq out R).Nodup
  | [], out => List.nodup_nil
  | p :: R, out => by
    rw [uniq]
    split
    · exact uniq_nodup R out
    · rw [List.nodup_cons]
      refine ⟨fun h => ?_, uniq_nodup R _⟩
      have := ((uniq_mem R _ _).1 h).1
      exact this (by simp)
theorem uniq_filter (z : Nat) : ∀ (R : List Pt) (out out' : List Nat), (∀ x, x ≠ z → (x ∈ out ↔ x ∈ out')) → uniq out (R.filter fun p => !(p.2 == z)) = (uniq out' R).filter fun x => !(x == z)
  | [], out, out', h => rfl
  | p :: R, out, out', h => by
    rw [List.filter_cons]
    by_cases hz : p.2 = z
    · have e : (!(p.2 == z)) = false := by simp [hz]
      rw [e, if_neg (by simp), uniq]
      by_cases hc : out'.contains p.2 = true
      · rw [if_pos hc]; exact uniq_filter z R out out' h
      · rw [if_neg hc, List.filter_cons, e, if_neg (by simp)]
        refine uniq_filter z R out _ fun x hx => ?_
        rw [h x hx, List.mem_append, List.mem_singleton]
        constructor
        · exact .inl
        · rintro (h1 | h1)
          · exact h1
          · exact absurd (h1.trans hz) hx
    · have e : (!(p.2 == z)) = true := by simp [hz]
      rw [e, if_pos rfl, uniq, uniq]
      by_cases hc : out'.contains p.2 = true
      · rw [if_pos hc, if_pos (by rw [List.contains_iff_mem] at hc ⊢; exact (h p.2 hz).2 hc)]
        exact uniq_filter z R out out' h
      · rw [if_neg hc, if_neg (fun hc2 => hc (by rw [List.contains_iff_mem] at hc2 ⊢; exact (h p.2 hz).1 hc2)), List.filter_cons, e, if_pos rfl]
        congr 1
        refine uniq_filter z R _ _ fun x hx => ?_
        rw [List.mem_append, List.mem_append, h x hx]
theorem uniq_len {n : Nat} {R : List Pt} (hn : ∀ p ∈ R, p.2 < n) (hall : ∀ x, x < n → ∃ p ∈ R, p.2 = x) : (uniq [] R).length = n := by
  have h1 := nodup_le n (uniq [] R) (uniq_nodup R []) (fun x hx => by
    obtain ⟨_, p, hp, rfl⟩ := (uniq_mem R [] x).1 hx
    exact hn p hp)
  have h2 := nodup_sub (List.range n) (uniq [] R) List.nodup_range (fun x hx => (uniq_mem R [] x).2 ⟨by simp, hall x (List.mem_range.1 hx)⟩)
  rw [List.length_range] at h2
  omega
theorem filter_take {α : Type} (f : α → Bool) : ∀ (U : List α) (n : Nat), ((U.take n).filter f) = (U.filter f).take ((U.take n).filter f).length
  | [], n => by simp
  | u :: U, 0 => by simp
  | u :: U, n + 1 => by
    rw [List.take_succ_cons, List.filter_cons, List.filter_cons]
    split
    · rw [List.length_cons, List.take_succ_cons, ← filter_take f U n]
    · exact filter_take f U n
theorem filter_one {z : Nat} : ∀ {l : List Nat}, l.Nodup → l.length ≤ (l.filter fun x => !(x == z)).length + 1
  | [], _ => by simp
  | a :: l, h => by
    obtain ⟨h1, h2⟩ := List.nodup_cons.1 h
    rw [List.filter_cons]
    by_cases ha : a = z
    · have e : (!(a == z)) = false := by simp [ha]
      rw [e, if_neg (by simp)]
      have : l.filter (fun x => !(x == z)) = l := by
        rw [List.filter_eq_self]
        intro x hx
        have : x ≠ z := fun e => h1 (by rw [ha, ← e]; exact hx)
        simp [this]
      rw [this]
      simp
    · have e : (!(a == z)) = true := by simp [ha]
      rw [e, if_pos rfl]
      have := filter_one (z := z) h2
      simp only [List.length_cons]
      omega
/-- one node more takes places of others -/
theorem more_nodes {k : Nat} {at_ : Nat} {L : List Pt} (hL : SortR L) (hn : ∀ p ∈ L, p.2 < k + 1) (hall : ∀ x, x < k + 1 → ∃ p ∈ L, p.2 = x) :
    ∃ a b : List Nat, a = firsts 3 [] (rotL at_ (L.filter fun p => !(p.2 == k))) ∧ b = firsts 3 [] (rotL at_ L) ∧ a.length = min 3 k ∧ b.length = min 3 (k + 1) ∧ b.Nodup ∧ (∀ x ∈ b, x ≤ k) ∧
      b.length ≤ (b.filter fun x => !(x == k)).length + 1 ∧ (b.filter fun x => !(x == k)).length ≤ a.length ∧ (b.filter fun x => !(x == k)) = a.take (b.filter fun x => !(x == k)).length := by
  refine ⟨_, _, rfl, rfl, ?_⟩
  rw [rot_filter hL, firsts_uniq 3 _ [] (by simp), firsts_uniq 3 _ [] (by simp), List.nil_append, List.nil_append, uniq_filter k _ [] [] (fun _ _ => Iff.rfl)]
  have hm : ∀ p, p ∈ rotL at_ L ↔ p ∈ L := fun p => mem_rot
  generalize rotL at_ L = R at *
  have hU : (uniq [] R).length = k + 1 := uniq_len (fun p hp => hn p ((hm p).1 hp)) (fun x hx => by
    obtain ⟨p, hp, e⟩ := hall x hx
    exact ⟨p, (hm p).2 hp, e⟩)
  have hd := uniq_nodup R []
  have hkm : k ∈ uniq [] R := (uniq_mem R [] k).2 ⟨by simp, by
    obtain ⟨p, hp, e⟩ := hall k (by omega)
    exact ⟨p, (hm p).2 hp, e⟩⟩
  have hlt : ∀ x ∈ uniq [] R, x ≤ k := fun x hx => by
    obtain ⟨_, p, hp, rfl⟩ := (uniq_mem R [] x).1 hx
    have := hn p ((hm p).1 hp)
    omega
  generalize uniq [] R = U at *
  have hF : (U.filter fun x => !(x == k)).length = k := by
    have h1 := filter_one (z := k) hd
    have h2 : (U.filter fun x => !(x == k)).length < U.length := by
      rw [List.length_filter_lt_length_iff_exists]
      exact ⟨k, hkm, by simp⟩
    omega
  have hbd : (U.take 3).Nodup := List.Pairwise.sublist (List.take_sublist _ _) hd
  have h1 := filter_take (fun x => !(x == k)) U 3
  have h2 : ((U.take 3).filter fun x => !(x == k)).length ≤ (U.take 3).length := List.length_filter_le _ _
  have h3 : ((U.take 3).filter fun x => !(x == k)).length ≤ (U.filter fun x => !(x == k)).length := by
    have := congrArg List.length h1
    rw [List.length_take] at this
    omega
  refine ⟨by rw [List.length_take, hF], by rw [List.length_take, hU], hbd, fun x hx => hlt x (List.mem_of_mem_take hx), filter_one hbd, ?_, ?_⟩
  · rw [List.length_take] at h2 ⊢; omega
  · rw [List.take_take, Nat.min_eq_left (by rw [List.length_take] at h2; omega)]
    exact h1
end Go.Proofs.YtbgnjjbmidkhlaaDoor
/- A sort's world: the row's block, and all else. -/
namespace Go.Proofs.YtbgnjjbmidkhlaaDoor
set_option linter.unusedVariables false
set_option linter.unusedSimpArgs false
set_option maxRecDepth 100000
open Go.RowKit
open Go.Sort (flatK size_flatK HoldsK Holds putRowK putRow putCells mapBlock onCells grow)
set_option linter.unusedVariables false
set_option linter.unusedSectionVars false
section
variable {α : Type} [Inhabited α] (enc : α → List Value) (k : Nat)
def flatE (l : List α) : List Value := (l.map enc).flatten
theorem flatE_cons (x : α) (l : List α) : flatE enc (x :: l) = enc x ++ flatE enc l := by simp [flatE]
theorem flatE_len (hk : ∀ x, (enc x).length = k) : ∀ l : List α, (flatE enc l).length = l.length * k
  | [] => by simp [flatE]
  | x :: l => by rw [flatE_cons, List.length_append, hk, flatE_len hk l, List.length_cons, Nat.add_mul, Nat.one_mul, Nat.add_comm]
theorem flatE_at (hk : ∀ x, (enc x).length = k) : ∀ (l : List α) (q r : Nat), r < k → q < l.length → (flatE enc l)[q * k + r]? = (enc (l[q]!))[r]?
  | [], q, r, _, h => by simp at h
  | x :: l, 0, r, hr, _ => by
    rw [flatE_cons, Nat.zero_mul, Nat.zero_add, List.getElem?_append_left (by rw [hk]; exact hr)]
    rfl
  | x :: l, q + 1, r, hr, h => by
    rw [flatE_cons, List.getElem?_append_right (by rw [hk, Nat.add_mul]; omega), hk, show (q + 1) * k + r - k = q * k + r by rw [Nat.add_mul]; omega, flatE_at hk l q r hr (by simpa using h)]
    rfl
theorem flatK_list (hk : ∀ x, (enc x).length = k) (h0 : 0 < k) (l : List α) : flatK enc k l.toArray = (flatE enc l).toArray := by
  refine Go.Sort.ext_get! (by rw [size_flatK]; simp [flatE_len enc k hk]) fun t ht => ?_
  rw [size_flatK] at ht
  have ht' : t < l.length * k := by simpa using ht
  rw [Go.Sort.get_flatK _ _ _ t ht]
  have hq : t / k < l.length := Nat.div_lt_of_lt_mul (by rw [Nat.mul_comm]; exact ht')
  have hr : t % k < k := Nat.mod_lt _ h0
  have h1 := flatE_at enc k hk l (t / k) (t % k) hr hq
  rw [show t / k * k + t % k = t by rw [Nat.mul_comm]; exact Nat.div_add_mod t k] at h1
  have h2 : t < (flatE enc l).toArray.size := by simp [flatE_len enc k hk]; exact ht'
  rw [getElem!_pos _ t h2]
  have h3 : (flatE enc l).toArray[t] = (flatE enc l)[t]'(by simpa using h2) := by simp
  rw [h3]
  have h4 : (flatE enc l)[t]? = some ((flatE enc l)[t]'(by simpa using h2)) := List.getElem?_eq_getElem _
  rw [h4] at h1
  have e1 : l.toArray[t / k]! = l[t / k]! := by simp
  rw [e1, List.getElem!_eq_getElem?_getD, ← h1]
  rfl
theorem holdsK_blk (hk : ∀ x, (enc x).length = k) (h0 : 0 < k) {w : World} {g : Nat} {T : TypeId} {l : List α} {rest : List Value} (h : Blk w g T (flatE enc l ++ rest).toArray) : HoldsK enc k w g 0 l.toArray := by
  intro j hj
  rw [size_flatK] at hj
  rw [flatK_list enc k hk h0]
  have hj' : j < (flatE enc l).length := by rw [flatE_len enc k hk]; simpa using hj
  refine ⟨?_, h.free _⟩
  rw [Nat.zero_add, h.cell, getElem!_pos _ j (by simpa using hj')]
  simp [List.getElem?_append_left hj', hj']
theorem sortWorld_blk (hk : ∀ x, (enc x).length = k) (h0 : 0 < k) {w : World} {g : Nat} {T : TypeId} {l : List α} {rest : List Value} (h : Blk w g T (flatE enc l ++ rest).toArray) (n : Nat) (d' : Array α) (hd : d'.size = l.length) (os : Array Obj) :
    Blk (sortWorldK enc k w g 0 n d' os) g T (flatE enc d'.toList ++ rest).toArray ∧ Only (fun i => i = g) w (sortWorldK enc k w g 0 n d' os) := by
  have hg := h.lt
  have hsz : ((putRowK enc k (Go.Sort.ahead w n) g 0 d').heap).size = w.heap.size := Go.Sort.size_putRowK enc k _ g 0 d'
  have hold : ∀ i : Nat, i < w.heap.size → (sortWorldK enc k w g 0 n d' os).heap[i]? = (putRowK enc k (Go.Sort.ahead w n) g 0 d').heap[i]? := fun i hi => by
    show ((putRowK enc k (Go.Sort.ahead w n) g 0 d').heap ++ os)[i]? = _
    rw [Array.getElem?_append_left (by rw [hsz]; exact hi)]
  have hmod : ∀ i : Nat, (putRowK enc k (Go.Sort.ahead w n) g 0 d').heap[i]? = (w.heap.modify g (onCells (putCells id 0 (flatK enc k d'))))[i]? := fun i => rfl
  refine ⟨?_, rfl, rfl, rfl, ?_, fun i hi hne => ?_⟩
  · unfold Blk
    rw [hold g hg, hmod, Array.getElem?_modify, if_pos rfl, show w.heap[g]? = some (.cells (flatE enc l ++ rest).toArray T (0, 0)) from h]
    show some (Obj.cells _ T (0, 0)) = _
    congr 2
    obtain ⟨dl⟩ := d'
    rw [flatK_list enc k hk h0 dl]
    have hd' : dl.length = l.length := by simpa using hd
    have hl1 := flatE_len enc k hk l
    have hl2 := flatE_len enc k hk dl
    rw [hd'] at hl2
    apply Array.ext_getElem?
    intro j
    unfold putCells
    rw [Array.getElem?_mapIdx]
    simp only [List.getElem?_toArray, List.size_toArray, Nat.zero_le, true_and, Nat.zero_add, Nat.sub_zero, id]
    by_cases hj : j < l.length * k
    · rw [List.getElem?_append_left (by omega), List.getElem?_append_left (by omega), List.getElem?_eq_getElem (by omega), List.getElem?_eq_getElem (by omega)]
      show some (if j < (flatE enc dl).length then _ else _) = _
      rw [if_pos (by omega)]
      simp [show j < (flatE enc dl).length by omega]
    · rw [List.getElem?_append_right (by omega), List.getElem?_append_right (by omega), hl1, hl2]
      cases hr : rest[j - l.length * k]? with
      | none => rfl
      | some v =>
        show some (if j < l.length * k then _ else _) = _
        rw [if_neg hj]
  · show w.heap.size ≤ ((putRowK enc k (Go.Sort.ahead w n) g 0 d').heap ++ os).size
    rw [Array.size_append, hsz]; omega
  · rw [hold i hi, hmod, Array.getElem?_modify, if_neg (fun e => hne e.symm)]
end
end Go.Proofs.YtbgnjjbmidkhlaaDoor
/- Contracts of the small functions on bytes: Lent, Kept. -/
namespace Go.Proofs.YtbgnjjbmidkhlaaDoor
set_option linter.unusedVariables false
set_option linter.unusedSimpArgs false
open Go.RowKit
end Go.Proofs.YtbgnjjbmidkhlaaDoor
/- Contract: the bytes of digits. -/
namespace Go.Proofs.YtbgnjjbmidkhlaaDoor
set_option linter.unusedVariables false
set_option linter.unusedSimpArgs false
open Go.RowKit
set_option linter.unusedVariables false
set_option linter.unusedSimpArgs false
def errU (s : List Nat) : Nat := if (unh s).isSome then 0 else 4
def resU (s : List Nat) : List Nat := (unh s).getD []
theorem i64_and1 (n : Int) : bits .and .i64 n 1 = n % 2 := by
  have h63 : (BitVec.ofInt 64 1).toNat = 2 ^ 1 - 1 := by decide
  have key : (BitVec.ofInt 64 n &&& BitVec.ofInt 64 1).toNat = (n % ((2 ^ 64 : Nat) : Int)).toNat % 2 ^ 1 := by
    rw [BitVec.toNat_and, BitVec.toNat_ofInt, h63, Nat.and_two_pow_sub_one_eq_mod]
  show IntKind.i64.wrap ((BitVec.ofInt 64 n &&& BitVec.ofInt 64 1).toNat : Nat) = n % 2
  rw [key, IntKind.wrap_i64]
  omega
theorem u8_or (x y : Nat) (hx : x < 16) (hy : y < 16) : bits .or .u8 ((x : Int) * 16) (y : Int) = ((x * 16 + y : Nat) : Int) := by
  have hp : x * 16 ||| y = x * 16 + y := by
    have := Nat.two_pow_add_eq_or_of_lt (i := 4) (b := y) (by omega) x
    rw [show 2 ^ 4 * x = x * 16 by omega] at this
    exact this.symm
  have h1 : BitVec.ofInt 8 ((x : Int) * 16) = BitVec.ofNat 8 (x * 16) := by
    rw [show ((x : Int) * 16) = ((x * 16 : Nat) : Int) by omega, BitVec.ofInt_natCast]
  show IntKind.u8.wrap ((BitVec.ofInt 8 ((x : Int) * 16) ||| BitVec.ofInt 8 (y : Int)).toNat : Nat) = _
  rw [h1, BitVec.ofInt_natCast, BitVec.toNat_or, BitVec.toNat_ofNat, BitVec.toNat_ofNat, Nat.mod_eq_of_lt (show x * 16 < 2 ^ 8 by omega), Nat.mod_eq_of_lt (show y < 2 ^ 8 by omega), hp]
  simp [IntKind.wrap, IntKind.signed, IntKind.bits]
  omega
end Go.Proofs.YtbgnjjbmidkhlaaDoor
/- Contract: the document's example of fingerprints. -/
namespace Go.Proofs.YtbgnjjbmidkhlaaDoor
set_option linter.unusedVariables false
set_option linter.unusedSimpArgs false
open Go.RowKit
set_option linter.unusedVariables false
set_option linter.unusedSimpArgs false
def abcS' : ByteArray := ByteArray.mk #[98, 97, 55, 56, 49, 54, 98, 102, 56, 102, 48, 49, 99, 102, 101, 97, 52, 49, 52, 49, 52, 48, 100, 101, 53, 100, 97, 101, 50, 50, 50, 51, 98, 48, 48, 51, 54, 49, 97, 51, 57, 54, 49, 55, 55, 97, 57, 99, 98, 52, 49, 48, 102, 102, 54, 49, 102, 50, 48, 48, 49, 53, 97, 100]
theorem abcS_list : abcS'.toList = [98, 97, 55, 56, 49, 54, 98, 102, 56, 102, 48, 49, 99, 102, 101, 97, 52, 49, 52, 49, 52, 48, 100, 101, 53, 100, 97, 101, 50, 50, 50, 51, 98, 48, 48, 51, 54, 49, 97, 51, 57, 54, 49, 55, 55, 97, 57, 99, 98, 52, 49, 48, 102, 102, 54, 49, 102, 50, 48, 48, 49, 53, 97, 100] := ByteArray.toList_mk _
theorem abc_str : bstr (hexs (sha [97, 98, 99])) = abcS' := by
  rw [sha_abc]
  rfl
theorem rd_lit (w : World) (l : List Nat) (fr : Nat × Nat) : Rd (w.alloc (.cells (vb l) 5 fr)) (w.heap.size + 1) (some ⟨w.heap.size, 0, none⟩) (byt l) := fun _ => ⟨_, rfl, Nat.lt_succ_self _, fun j u hu => by
  rw [Addr.add_mid, Nat.zero_add, World.cell?_alloc_mark]
  show (byt l).toArray[j]? = some u
  rw [List.getElem?_toArray, hu]⟩
end Go.Proofs.YtbgnjjbmidkhlaaDoor
/- ShaTexts: the walk. -/
namespace Go.Proofs.YtbgnjjbmidkhlaaDoor
set_option linter.unusedVariables false
set_option linter.unusedSimpArgs false
open Go.RowKit
set_option linter.unusedVariables false
set_option linter.unusedSimpArgs false
def RoundsAt (w : World) : Prop := (∀ i, i < 64 → w.cell? ⟨0, i, none⟩ = some (.int .u32 (kc.getD i 0 : Nat))) ∧ 0 < w.heap.size
theorem RoundsAt.next {w w' : World} (h : RoundsAt w) (hb : Below w.heap.size w w') : RoundsAt w' := ⟨fun i hi => (hb.cell (p := ⟨0, i, none⟩) h.2).trans (h.1 i hi), Nat.lt_of_lt_of_le h.2 hb.size⟩
end Go.Proofs.YtbgnjjbmidkhlaaDoor
/- Contract: the document's fingerprint: the first 16 words of a schedule. -/
namespace Go.Proofs.YtbgnjjbmidkhlaaDoor
set_option linter.unusedVariables false
set_option linter.unusedSimpArgs false
open Go.RowKit
set_option linter.unusedVariables false
set_option linter.unusedSimpArgs false
set_option maxRecDepth 1000000 in
set_option maxHeartbeats 40000000 in
theorem loop4 (Q : Exit → Act → World → Prop) (wq : World) (gp nb kp j : Nat) (P CH : List Nat) (rest : List Value) (c0 c1 c2 c4 c5 c9 c10 c11 c12 c13 c14 c15 c16 c17 c18 c19 c20 c21 c22 c23 c24 c25 c26 c27 c28 c29 c30 c31 c32 c33 c34 c35 c36 c37 c38 c39 c40 c41 c42 c43 c44 c45 c46 c47 c48 c49 c50 c51 c52 c53 c54 c55 c56 c57 c58 c59 c60 c61 c62 c63 c64 c65 c66 c67 c68 c69 c70 c71 c72 c73 c74 c75 c76 c77 c78 c79 c80 c81 c82 c83 c84 c85 c86 c87 c88 c89 c90 c91 c92 c93 c94 c95 c96 c97 c98 c99 c100 c101 c102 c103 c104 c105 c106 c107 c108 c109 c110 c111 c112 c113 c114 c115 c116 c117 c118 c119 c120 c121 c122 c123 c124 c125 c126 c127 c128 c129 c130 c131 c132 c133 c134 c135 c136 c137 c138 c139 c140 c141 c142 c143 c144 c145 c146 c147 c148 c149 c150 c151 c152 c153 c154 c155 c156 c157 c158 c159 c160 c161 c162 c163 c164 c165 c166 c167 c168 c169 c170 c171 c172 c173 c174 c175 c176 c177 c178 c179 c180 c181 c182 c183 c184 c185 c186 c187 c188 c189 c190 c191 c192 c193 c194 c195 c196 c197 c198 c199 c200 c201 c202 c203 c204 c205 c206 c207 c208 c209 c210 c211 c212 c213 c214 c215 c216 c217 c218 c219 c220 c221 c222 c223 c224 c225 c226 c227 c228 c229 c230 c231 c232 c233 c234 c235 c236 c237 c238 c239 c240 c241 c242 c243 c244 c245 c246 c247 c248 c249 c250 c251 c252 c253 c254 c255 c256 c257 c258 c259 c260 c261 c262 c263 c264 c265 c266 c267 c268 c269 c270 c271 c272 c273 c274 c275 c276 c277 c278 c279 c280 c281 c282 c283 c284 : Value)
    (hlt : j < nb) (hnbl : nb ≤ 1000) (hkp : 64 * nb ≤ kp) (hkp2 : kp ≤ maxLen) (hCl : CH.length = 64)
    (HCL : Hid (∀ c ∈ CH, c < 256)) (HCP : Hid (∀ i, i < 64 → P.getD (64 * j + i) 0 = CH.getD i 0)) (HPN : Hid (P.length = 64 * nb))
    (HPQ : Hid (Blk wq gp 5 (byt P ++ rest).toArray))
    (hexit : ∀ (u8 u54 u55 u56 u57 u58 u59 u60 u61 u62 u63 u64 u65 u66 u67 u68 u69 u70 u71 u72 u73 : Value) (v : Value) (ws : World), OwnW ws wq.heap.size v (sch CH 16) → Below wq.heap.size wq ws → Q (.exit 4) ⟨(c0 :: c1 :: c2 :: (.slice (some ⟨gp, 0, none⟩) (64 * nb) kp) :: c4 :: c5 :: (.int .i64 (64 * (j : Int))) :: v :: u8 :: c9 :: c10 :: c11 :: c12 :: c13 :: c14 :: c15 :: c16 :: c17 :: c18 :: c19 :: c20 :: c21 :: c22 :: c23 :: c24 :: c25 :: c26 :: c27 :: c28 :: c29 :: c30 :: c31 :: c32 :: c33 :: c34 :: c35 :: c36 :: c37 :: c38 :: c39 :: c40 :: c41 :: c42 :: c43 :: c44 :: c45 :: c46 :: c47 :: c48 :: c49 :: c50 :: c51 :: c52 :: c53 :: u54 :: u55 :: u56 :: u57 :: u58 :: u59 :: u60 :: u61 :: u62 :: u63 :: u64 :: u65 :: u66 :: u67 :: u68 :: u69 :: u70 :: u71 :: u72 :: u73 :: c74 :: c75 :: c76 :: c77 :: c78 :: c79 :: c80 :: c81 :: c82 :: c83 :: c84 :: c85 :: c86 :: c87 :: c88 :: c89 :: c90 :: c91 :: c92 :: c93 :: c94 :: c95 :: c96 :: c97 :: c98 :: c99 :: c100 :: c101 :: c102 :: c103 :: c104 :: c105 :: c106 :: c107 :: c108 :: c109 :: c110 :: c111 :: c112 :: c113 :: c114 :: c115 :: c116 :: c117 :: c118 :: c119 :: c120 :: c121 :: c122 :: c123 :: c124 :: c125 :: c126 :: c127 :: c128 :: c129 :: c130 :: c131 :: c132 :: c133 :: c134 :: c135 :: c136 :: c137 :: c138 :: c139 :: c140 :: c141 :: c142 :: c143 :: c144 :: c145 :: c146 :: c147 :: c148 :: c149 :: c150 :: c151 :: c152 :: c153 :: c154 :: c155 :: c156 :: c157 :: c158 :: c159 :: c160 :: c161 :: c162 :: c163 :: c164 :: c165 :: c166 :: c167 :: c168 :: c169 :: c170 :: c171 :: c172 :: c173 :: c174 :: c175 :: c176 :: c177 :: c178 :: c179 :: c180 :: c181 :: c182 :: c183 :: c184 :: c185 :: c186 :: c187 :: c188 :: c189 :: c190 :: c191 :: c192 :: c193 :: c194 :: c195 :: c196 :: c197 :: c198 :: c199 :: c200 :: c201 :: c202 :: c203 :: c204 :: c205 :: c206 :: c207 :: c208 :: c209 :: c210 :: c211 :: c212 :: c213 :: c214 :: c215 :: c216 :: c217 :: c218 :: c219 :: c220 :: c221 :: c222 :: c223 :: c224 :: c225 :: c226 :: c227 :: c228 :: c229 :: c230 :: c231 :: c232 :: c233 :: c234 :: c235 :: c236 :: c237 :: c238 :: c239 :: c240 :: c241 :: c242 :: c243 :: c244 :: c245 :: c246 :: c247 :: c248 :: c249 :: c250 :: c251 :: c252 :: c253 :: c254 :: c255 :: c256 :: c257 :: c258 :: c259 :: c260 :: c261 :: c262 :: c263 :: c264 :: c265 :: c266 :: c267 :: c268 :: c269 :: c270 :: c271 :: c272 :: c273 :: c274 :: c275 :: c276 :: c277 :: c278 :: c279 :: c280 :: c281 :: c282 :: c283 :: c284 :: []).toArray, []⟩ ws) :
    Code.wp Tryd.prog (lp 4) Q ⟨(c0 :: c1 :: c2 :: (.slice (some ⟨gp, 0, none⟩) (64 * nb) kp) :: c4 :: c5 :: (.int .i64 (64 * (j : Int))) :: (.slice none 0 0) :: (.int .i64 0) :: c9 :: c10 :: c11 :: c12 :: c13 :: c14 :: c15 :: c16 :: c17 :: c18 :: c19 :: c20 :: c21 :: c22 :: c23 :: c24 :: c25 :: c26 :: c27 :: c28 :: c29 :: c30 :: c31 :: c32 :: c33 :: c34 :: c35 :: c36 :: c37 :: c38 :: c39 :: c40 :: c41 :: c42 :: c43 :: c44 :: c45 :: c46 :: c47 :: c48 :: c49 :: c50 :: c51 :: c52 :: c53 :: c54 :: c55 :: c56 :: c57 :: c58 :: c59 :: c60 :: c61 :: c62 :: c63 :: c64 :: c65 :: c66 :: c67 :: c68 :: c69 :: c70 :: c71 :: c72 :: c73 :: c74 :: c75 :: c76 :: c77 :: c78 :: c79 :: c80 :: c81 :: c82 :: c83 :: c84 :: c85 :: c86 :: c87 :: c88 :: c89 :: c90 :: c91 :: c92 :: c93 :: c94 :: c95 :: c96 :: c97 :: c98 :: c99 :: c100 :: c101 :: c102 :: c103 :: c104 :: c105 :: c106 :: c107 :: c108 :: c109 :: c110 :: c111 :: c112 :: c113 :: c114 :: c115 :: c116 :: c117 :: c118 :: c119 :: c120 :: c121 :: c122 :: c123 :: c124 :: c125 :: c126 :: c127 :: c128 :: c129 :: c130 :: c131 :: c132 :: c133 :: c134 :: c135 :: c136 :: c137 :: c138 :: c139 :: c140 :: c141 :: c142 :: c143 :: c144 :: c145 :: c146 :: c147 :: c148 :: c149 :: c150 :: c151 :: c152 :: c153 :: c154 :: c155 :: c156 :: c157 :: c158 :: c159 :: c160 :: c161 :: c162 :: c163 :: c164 :: c165 :: c166 :: c167 :: c168 :: c169 :: c170 :: c171 :: c172 :: c173 :: c174 :: c175 :: c176 :: c177 :: c178 :: c179 :: c180 :: c181 :: c182 :: c183 :: c184 :: c185 :: c186 :: c187 :: c188 :: c189 :: c190 :: c191 :: c192 :: c193 :: c194 :: c195 :: c196 :: c197 :: c198 :: c199 :: c200 :: c201 :: c202 :: c203 :: c204 :: c205 :: c206 :: c207 :: c208 :: c209 :: c210 :: c211 :: c212 :: c213 :: c214 :: c215 :: c216 :: c217 :: c218 :: c219 :: c220 :: c221 :: c222 :: c223 :: c224 :: c225 :: c226 :: c227 :: c228 :: c229 :: c230 :: c231 :: c232 :: c233 :: c234 :: c235 :: c236 :: c237 :: c238 :: c239 :: c240 :: c241 :: c242 :: c243 :: c244 :: c245 :: c246 :: c247 :: c248 :: c249 :: c250 :: c251 :: c252 :: c253 :: c254 :: c255 :: c256 :: c257 :: c258 :: c259 :: c260 :: c261 :: c262 :: c263 :: c264 :: c265 :: c266 :: c267 :: c268 :: c269 :: c270 :: c271 :: c272 :: c273 :: c274 :: c275 :: c276 :: c277 :: c278 :: c279 :: c280 :: c281 :: c282 :: c283 :: c284 :: []).toArray, []⟩ wq := by
  conv => arg 2; whnf
  obtain ⟨i4, hi4, hy0, hy1, hy2⟩ := info_word
  have hpb := HPQ.out.lt
  go_loopw [7, 8] (fun v vi ws => ∃ i : Nat, i ≤ 16 ∧ vi = .int .i64 (i : Int) ∧ OwnW ws wq.heap.size v (sch CH i) ∧ Below wq.heap.size wq ws) (fun _ vi _ => 16 - (intOf vi).toNat)
  case atStart => exact ⟨0, by omega, rfl, OwnW.nil_ _ _, Below.refl _ _⟩
  case round =>
    rename World => ws
    obtain ⟨i, hi, rfl, ho, hb⟩ := hrel
    obtain ⟨A7, k7, rfl, _, _, _⟩ := ho.rd
    have HOW := Lib.hid ho
    have HBW := Lib.hid hb
    clear ho hb
    have HSL := Lib.hid (sch_len CH i)
    by_cases hlt : i < 16
    · have hlow : 64 * j + 4 * i + 4 ≤ 64 * nb := by omega
      have x1 : (0 : Int) ≤ 64 * (j : Int) + 4 * (i : Int) := by omega
      have x2 : (64 * (j : Int) + 4 * (i : Int) + 4) ≤ (kp : Int) := by omega
      have x3 : (64 * (j : Int) + 4 * (i : Int)).toNat = 64 * j + 4 * i := by omega
      have x4 : (64 * (j : Int) + 4 * (i : Int) + 4).toNat = 64 * j + 4 * i + 4 := by omega
      have hbe := be4_lt HCL.out i
      have hnx : sch CH (i + 1) = sch CH i ++ [be4 CH i] := by
        show sch CH i ++ [nxt CH (sch CH i) i] = _
        unfold nxt; rw [if_pos hlt]
      have HNU := Lib.hid (num4_c gp (64 * j) i (kp - (64 * j + 4 * i)) P CH rest hlt hCl HCL.out HCP.out (by have := HPN.out; omega))
      have HNX := Lib.hid hnx
      have HPW := Lib.hid (HPQ.out.below HBW.out HPQ.out.lt)
      clear hnx
      generalize be4 CH i = y at *
      go_wp2_with (first
        | (go_at_call 52; (refine (HNU.out ws HPW.out).mono ?_); rintro e wn ⟨rfl, rfl⟩)
        | (at_builtin; refine wpList_app _ rfl (.tmp 58) (.tmp 72) _ rfl wq.heap.size 61 i4 (.int .u32 0) 1 4 Tryd.underlying77 hi4 hy0 hy1 hy2 rfl (by decide) _ _ _ rfl (HOW.out.alloc _) _ _ 1 1 [.int .u32 (y : Nat)] rfl rfl (by exact rd_oneW _ _) (w32_one [_]) (by have := HSL.out; omega) (by have := HSL.out; omega) (by have := HBW.out.size; simp; omega) ?_; intro v9 w9 hap; have HO9 := Lib.hid (show OwnW w9 wq.heap.size v9 (sch CH (i + 1)) from by rw [HNX.out]; exact OwnW.snoc hap); have HB9 := Lib.hid (show Below wq.heap.size wq w9 from (HBW.out.alloc HBW.out.size _).trans (hap.below (HOW.out.alloc _) (by have := HBW.out.size; simp; omega))); clear hap))
      refine ⟨⟨i + 1, by omega, by congr 1, HO9.out, HB9.out⟩, ?_⟩
      simp only [intOf]; omega
    · obtain rfl : i = 16 := by omega
      go_wp2_with fail
      exact hexit _ _ _ _ _ _ _ _ _ _ _ _ _ _ _ _ _ _ _ _ _ _ _ HOW.out HBW.out
end Go.Proofs.YtbgnjjbmidkhlaaDoor
/- Contract: the document's fingerprint: the other words of a schedule. -/
namespace Go.Proofs.YtbgnjjbmidkhlaaDoor
set_option linter.unusedVariables false
set_option linter.unusedSimpArgs false
open Go.RowKit
set_option linter.unusedVariables false
set_option linter.unusedSimpArgs false
set_option maxRecDepth 1000000 in
set_option maxHeartbeats 40000000 in
theorem loop6 (Q : Exit → Act → World → Prop) (wq : World) (base : Nat) (CH : List Nat) (v t134 : Value) (c0 c1 c2 c3 c4 c5 c6 c8 c10 c11 c12 c13 c14 c15 c16 c17 c18 c19 c20 c21 c22 c23 c24 c25 c26 c27 c28 c29 c30 c31 c32 c33 c34 c35 c36 c37 c38 c39 c40 c41 c42 c43 c44 c45 c46 c47 c48 c49 c50 c51 c52 c53 c54 c55 c56 c57 c58 c59 c60 c61 c62 c63 c64 c65 c66 c67 c68 c69 c70 c71 c72 c73 c74 c75 c76 c77 c78 c79 c80 c81 c82 c83 c84 c85 c86 c87 c88 c89 c90 c91 c92 c93 c94 c95 c96 c97 c98 c99 c100 c101 c102 c103 c104 c105 c106 c107 c108 c109 c110 c111 c112 c113 c114 c115 c116 c117 c118 c119 c120 c121 c122 c123 c124 c125 c126 c127 c128 c129 c130 c131 c132 c133 c135 c136 c137 c138 c139 c140 c141 c142 c143 c144 c145 c146 c147 c148 c149 c150 c151 c152 c153 c154 c155 c156 c157 c158 c159 c160 c161 c162 c163 c164 c165 c166 c167 c168 c169 c170 c171 c172 c173 c174 c175 c176 c177 c178 c179 c180 c181 c182 c183 c184 c185 c186 c187 c188 c189 c190 c191 c192 c193 c194 c195 c196 c197 c198 c199 c200 c201 c202 c203 c204 c205 c206 c207 c208 c209 c210 c211 c212 c213 c214 c215 c216 c217 c218 c219 c220 c221 c222 c223 c224 c225 c226 c227 c228 c229 c230 c231 c232 c233 c234 c235 c236 c237 c238 c239 c240 c241 c242 c243 c244 c245 c246 c247 c248 c249 c250 c251 c252 c253 c254 c255 c256 c257 c258 c259 c260 c261 c262 c263 c264 c265 c266 c267 c268 c269 c270 c271 c272 c273 c274 c275 c276 c277 c278 c279 c280 c281 c282 c283 c284 : Value)
    (HCL : Hid (∀ c ∈ CH, c < 256)) (HOW : Hid (OwnW wq base v (sch CH 16))) (hbase : base ≤ wq.heap.size) (h134 : isTok t134 = false)
    (hexit : ∀ (u9 u10 u11 u74 u75 u76 u77 u78 u79 u80 u81 u82 u83 u84 u85 u86 u87 u88 u89 u90 u91 u92 u93 u94 u95 u96 u97 u98 u99 u100 u101 u102 u103 u104 u105 u106 u107 u108 u109 u110 u111 u112 u113 u114 u115 u116 u117 u118 u119 u120 u121 u122 u123 u124 u125 u126 u127 u128 u129 u130 u131 u132 u133 u135 : Value) (v t134 : Value) (ws : World), isTok t134 = false → OwnW ws base v (sch CH 64) → Below base wq ws → Q (.exit 6) ⟨(c0 :: c1 :: c2 :: c3 :: c4 :: c5 :: c6 :: v :: c8 :: u9 :: u10 :: u11 :: c12 :: c13 :: c14 :: c15 :: c16 :: c17 :: c18 :: c19 :: c20 :: c21 :: c22 :: c23 :: c24 :: c25 :: c26 :: c27 :: c28 :: c29 :: c30 :: c31 :: c32 :: c33 :: c34 :: c35 :: c36 :: c37 :: c38 :: c39 :: c40 :: c41 :: c42 :: c43 :: c44 :: c45 :: c46 :: c47 :: c48 :: c49 :: c50 :: c51 :: c52 :: c53 :: c54 :: c55 :: c56 :: c57 :: c58 :: c59 :: c60 :: c61 :: c62 :: c63 :: c64 :: c65 :: c66 :: c67 :: c68 :: c69 :: c70 :: c71 :: c72 :: c73 :: u74 :: u75 :: u76 :: u77 :: u78 :: u79 :: u80 :: u81 :: u82 :: u83 :: u84 :: u85 :: u86 :: u87 :: u88 :: u89 :: u90 :: u91 :: u92 :: u93 :: u94 :: u95 :: u96 :: u97 :: u98 :: u99 :: u100 :: u101 :: u102 :: u103 :: u104 :: u105 :: u106 :: u107 :: u108 :: u109 :: u110 :: u111 :: u112 :: u113 :: u114 :: u115 :: u116 :: u117 :: u118 :: u119 :: u120 :: u121 :: u122 :: u123 :: u124 :: u125 :: u126 :: u127 :: u128 :: u129 :: u130 :: u131 :: u132 :: u133 :: t134 :: u135 :: c136 :: c137 :: c138 :: c139 :: c140 :: c141 :: c142 :: c143 :: c144 :: c145 :: c146 :: c147 :: c148 :: c149 :: c150 :: c151 :: c152 :: c153 :: c154 :: c155 :: c156 :: c157 :: c158 :: c159 :: c160 :: c161 :: c162 :: c163 :: c164 :: c165 :: c166 :: c167 :: c168 :: c169 :: c170 :: c171 :: c172 :: c173 :: c174 :: c175 :: c176 :: c177 :: c178 :: c179 :: c180 :: c181 :: c182 :: c183 :: c184 :: c185 :: c186 :: c187 :: c188 :: c189 :: c190 :: c191 :: c192 :: c193 :: c194 :: c195 :: c196 :: c197 :: c198 :: c199 :: c200 :: c201 :: c202 :: c203 :: c204 :: c205 :: c206 :: c207 :: c208 :: c209 :: c210 :: c211 :: c212 :: c213 :: c214 :: c215 :: c216 :: c217 :: c218 :: c219 :: c220 :: c221 :: c222 :: c223 :: c224 :: c225 :: c226 :: c227 :: c228 :: c229 :: c230 :: c231 :: c232 :: c233 :: c234 :: c235 :: c236 :: c237 :: c238 :: c239 :: c240 :: c241 :: c242 :: c243 :: c244 :: c245 :: c246 :: c247 :: c248 :: c249 :: c250 :: c251 :: c252 :: c253 :: c254 :: c255 :: c256 :: c257 :: c258 :: c259 :: c260 :: c261 :: c262 :: c263 :: c264 :: c265 :: c266 :: c267 :: c268 :: c269 :: c270 :: c271 :: c272 :: c273 :: c274 :: c275 :: c276 :: c277 :: c278 :: c279 :: c280 :: c281 :: c282 :: c283 :: c284 :: []).toArray, []⟩ ws) :
    Code.wp Tryd.prog (lp 6) Q ⟨(c0 :: c1 :: c2 :: c3 :: c4 :: c5 :: c6 :: v :: c8 :: (.int .i64 16) :: c10 :: c11 :: c12 :: c13 :: c14 :: c15 :: c16 :: c17 :: c18 :: c19 :: c20 :: c21 :: c22 :: c23 :: c24 :: c25 :: c26 :: c27 :: c28 :: c29 :: c30 :: c31 :: c32 :: c33 :: c34 :: c35 :: c36 :: c37 :: c38 :: c39 :: c40 :: c41 :: c42 :: c43 :: c44 :: c45 :: c46 :: c47 :: c48 :: c49 :: c50 :: c51 :: c52 :: c53 :: c54 :: c55 :: c56 :: c57 :: c58 :: c59 :: c60 :: c61 :: c62 :: c63 :: c64 :: c65 :: c66 :: c67 :: c68 :: c69 :: c70 :: c71 :: c72 :: c73 :: c74 :: c75 :: c76 :: c77 :: c78 :: c79 :: c80 :: c81 :: c82 :: c83 :: c84 :: c85 :: c86 :: c87 :: c88 :: c89 :: c90 :: c91 :: c92 :: c93 :: c94 :: c95 :: c96 :: c97 :: c98 :: c99 :: c100 :: c101 :: c102 :: c103 :: c104 :: c105 :: c106 :: c107 :: c108 :: c109 :: c110 :: c111 :: c112 :: c113 :: c114 :: c115 :: c116 :: c117 :: c118 :: c119 :: c120 :: c121 :: c122 :: c123 :: c124 :: c125 :: c126 :: c127 :: c128 :: c129 :: c130 :: c131 :: c132 :: c133 :: t134 :: c135 :: c136 :: c137 :: c138 :: c139 :: c140 :: c141 :: c142 :: c143 :: c144 :: c145 :: c146 :: c147 :: c148 :: c149 :: c150 :: c151 :: c152 :: c153 :: c154 :: c155 :: c156 :: c157 :: c158 :: c159 :: c160 :: c161 :: c162 :: c163 :: c164 :: c165 :: c166 :: c167 :: c168 :: c169 :: c170 :: c171 :: c172 :: c173 :: c174 :: c175 :: c176 :: c177 :: c178 :: c179 :: c180 :: c181 :: c182 :: c183 :: c184 :: c185 :: c186 :: c187 :: c188 :: c189 :: c190 :: c191 :: c192 :: c193 :: c194 :: c195 :: c196 :: c197 :: c198 :: c199 :: c200 :: c201 :: c202 :: c203 :: c204 :: c205 :: c206 :: c207 :: c208 :: c209 :: c210 :: c211 :: c212 :: c213 :: c214 :: c215 :: c216 :: c217 :: c218 :: c219 :: c220 :: c221 :: c222 :: c223 :: c224 :: c225 :: c226 :: c227 :: c228 :: c229 :: c230 :: c231 :: c232 :: c233 :: c234 :: c235 :: c236 :: c237 :: c238 :: c239 :: c240 :: c241 :: c242 :: c243 :: c244 :: c245 :: c246 :: c247 :: c248 :: c249 :: c250 :: c251 :: c252 :: c253 :: c254 :: c255 :: c256 :: c257 :: c258 :: c259 :: c260 :: c261 :: c262 :: c263 :: c264 :: c265 :: c266 :: c267 :: c268 :: c269 :: c270 :: c271 :: c272 :: c273 :: c274 :: c275 :: c276 :: c277 :: c278 :: c279 :: c280 :: c281 :: c282 :: c283 :: c284 :: []).toArray, []⟩ wq := by
  conv => arg 2; whnf
  obtain ⟨i4, hi4, hy0, hy1, hy2⟩ := info_word
  go_loopw [7, 9, 134] (fun v vi vt ws => ∃ k : Nat, isTok vt = false ∧ 16 ≤ k ∧ k ≤ 64 ∧ vi = .int .i64 (k : Int) ∧ OwnW ws base v (sch CH k) ∧ Below base wq ws) (fun _ vi _ _ => 64 - (intOf vi).toNat)
  case atStart => exact ⟨16, h134, by omega, by omega, rfl, HOW.out, Below.refl _ _⟩
  case round =>
    clear HOW
    rename World => ws
    obtain ⟨k, ht, hk16, hk64, rfl, ho, hb⟩ := hrel
    obtain ⟨A8, k8, rfl, _, _, hr8⟩ := ho.rd
    have HOW := Lib.hid ho
    have HBW := Lib.hid hb
    have HSL := Lib.hid (sch_len CH k)
    have HT := Lib.hid ht
    clear ht
    obtain ⟨ad8, rfl, hab, hc8⟩ := hr8.wordAt (by rw [sch_len]; omega)
    rw [sch_len] at hc8
    clear ho hb hr8
    by_cases hlt : k < 64
    · have hnx : sch CH (k + 1) = sch CH k ++ [ad (ad (ad ((sch CH k).getD (k - 16) 0) (s0 ((sch CH k).getD (k - 15) 0))) ((sch CH k).getD (k - 7) 0)) (s1 ((sch CH k).getD (k - 2) 0))] := by
        show sch CH k ++ [nxt CH (sch CH k) k] = _
        unfold nxt; rw [if_neg (by omega)]
      have HNX := Lib.hid hnx
      have q0 := hc8 (k - 16) (by omega)
      have q1 := hc8 (k - 15) (by omega)
      have q2 := hc8 (k - 7) (by omega)
      have q3 := hc8 (k - 2) (by omega)
      have x0 := sch_at_lt HCL.out k (k - 16)
      have x1 := sch_at_lt HCL.out k (k - 15)
      have x2 := sch_at_lt HCL.out k (k - 7)
      have x3 := sch_at_lt HCL.out k (k - 2)
      clear hnx hc8
      generalize (sch CH k).getD (k - 16) 0 = y0 at *
      generalize (sch CH k).getD (k - 15) 0 = y1 at *
      generalize (sch CH k).getD (k - 7) 0 = y2 at *
      generalize (sch CH k).getD (k - 2) 0 = y3 at *
      have K7 := Lib.hid (show ∀ W, Calls Tryd.prog 53 #[.int .u32 (y1 : Nat), .int .i64 7] W fun e w' => e = .returned (.int .u32 (rotr y1 7 : Nat)) ∧ W = w' from fun W => rturn_c y1 7 W x1 (by decide))
      have K18 := Lib.hid (show ∀ W, Calls Tryd.prog 53 #[.int .u32 (y1 : Nat), .int .i64 18] W fun e w' => e = .returned (.int .u32 (rotr y1 18 : Nat)) ∧ W = w' from fun W => rturn_c y1 18 W x1 (by decide))
      have K17 := Lib.hid (show ∀ W, Calls Tryd.prog 53 #[.int .u32 (y3 : Nat), .int .i64 17] W fun e w' => e = .returned (.int .u32 (rotr y3 17 : Nat)) ∧ W = w' from fun W => rturn_c y3 17 W x3 (by decide))
      have K19 := Lib.hid (show ∀ W, Calls Tryd.prog 53 #[.int .u32 (y3 : Nat), .int .i64 19] W fun e w' => e = .returned (.int .u32 (rotr y3 19 : Nat)) ∧ W = w' from fun W => rturn_c y3 19 W x3 (by decide))
      have K3 := Lib.hid (show ∀ W, Calls Tryd.prog 54 #[.int .u32 (y1 : Nat), .int .i64 3] W fun e w' => e = .returned (.int .u32 (y1 / 2 ^ 3 : Nat)) ∧ W = w' from fun W => rcut_c y1 3 W x1 (by decide))
      have K10 := Lib.hid (show ∀ W, Calls Tryd.prog 54 #[.int .u32 (y3 : Nat), .int .i64 10] W fun e w' => e = .returned (.int .u32 (y3 / 2 ^ 10 : Nat)) ∧ W = w' from fun W => rcut_c y3 10 W x3 (by decide))
      have f1 : bits BinOp.xor .u32 ((rotr y1 7 : Nat) : Int) ((rotr y1 18 : Nat) : Int) = ((rotr y1 7 ^^^ rotr y1 18 : Nat) : Int) := u32_xor_nat _ _ (rotr_lt x1 (by decide)) (rotr_lt x1 (by decide))
      have f2 : bits BinOp.xor .u32 ((rotr y1 7 ^^^ rotr y1 18 : Nat) : Int) ((y1 / 2 ^ 3 : Nat) : Int) = ((s0 y1 : Nat) : Int) := u32_xor_nat _ _ (xor_w (rotr_lt x1 (by decide)) (rotr_lt x1 (by decide))) (Nat.lt_of_le_of_lt (Nat.div_le_self _ _) x1)
      have f3 : bits BinOp.xor .u32 ((rotr y3 17 : Nat) : Int) ((rotr y3 19 : Nat) : Int) = ((rotr y3 17 ^^^ rotr y3 19 : Nat) : Int) := u32_xor_nat _ _ (rotr_lt x3 (by decide)) (rotr_lt x3 (by decide))
      have f4 : bits BinOp.xor .u32 ((rotr y3 17 ^^^ rotr y3 19 : Nat) : Int) ((y3 / 2 ^ 10 : Nat) : Int) = ((s1 y3 : Nat) : Int) := u32_xor_nat _ _ (xor_w (rotr_lt x3 (by decide)) (rotr_lt x3 (by decide))) (Nat.lt_of_le_of_lt (Nat.div_le_self _ _) x3)
      have a1 := wrap32_add y0 (s0 y1)
      have a2 := wrap32_add (ad y0 (s0 y1)) y2
      have a3 := wrap32_add (ad (ad y0 (s0 y1)) y2) (s1 y3)
      generalize ad (ad (ad y0 (s0 y1)) y2) (s1 y3) = r3 at *
      generalize ad (ad y0 (s0 y1)) y2 = r2 at *
      generalize ad y0 (s0 y1) = r1 at *
      generalize s0 y1 = t0 at *
      generalize s1 y3 = t1 at *
      generalize rotr y1 7 ^^^ rotr y1 18 = p0 at *
      generalize rotr y3 17 ^^^ rotr y3 19 = p1 at *
      generalize rotr y1 7 = p2 at *
      generalize rotr y1 18 = p3 at *
      generalize rotr y3 17 = p4 at *
      generalize rotr y3 19 = p5 at *
      generalize y1 / 2 ^ 3 = p6 at *
      generalize y3 / 2 ^ 10 = p7 at *
      have i1 : IntKind.i64.wrap ((k : Int) - 16) = ((k - 16 : Nat) : Int) := by simp [IntKind.wrap, IntKind.signed, IntKind.bits]; omega
      have i2 : IntKind.i64.wrap ((k : Int) - 15) = ((k - 15 : Nat) : Int) := by simp [IntKind.wrap, IntKind.signed, IntKind.bits]; omega
      have i3 : IntKind.i64.wrap ((k : Int) - 7) = ((k - 7 : Nat) : Int) := by simp [IntKind.wrap, IntKind.signed, IntKind.bits]; omega
      have i4' : IntKind.i64.wrap ((k : Int) - 2) = ((k - 2 : Nat) : Int) := by simp [IntKind.wrap, IntKind.signed, IntKind.bits]; omega
      have b1 : k - 16 < (sch CH k).length := by rw [sch_len]; omega
      have b2 : k - 15 < (sch CH k).length := by rw [sch_len]; omega
      have b3 : k - 7 < (sch CH k).length := by rw [sch_len]; omega
      have b4 : k - 2 < (sch CH k).length := by rw [sch_len]; omega
      have b1' : ((k - 16 : Nat) : Int) < ((sch CH k).length : Int) := by omega
      have b2' : ((k - 15 : Nat) : Int) < ((sch CH k).length : Int) := by omega
      have b3' : ((k - 7 : Nat) : Int) < ((sch CH k).length : Int) := by omega
      have b4' : ((k - 2 : Nat) : Int) < ((sch CH k).length : Int) := by omega
      go_wp2_with fail
      refine wp_region_quiet_lit (by kernel_rfl) (by kernel_rfl) ?_
      repeat (go_big_quiet_step ((first
        | (go_at_call 53; with_reducible exact (K7.out _).mono fun _ _ h => ⟨h.1, _, h.2.symm⟩)
        | (go_at_call 53; with_reducible exact (K18.out _).mono fun _ _ h => ⟨h.1, _, h.2.symm⟩)
        | (go_at_call 54; exact (K3.out _).mono fun _ _ h => ⟨h.1, _, h.2.symm⟩))))
      refine wpQuiet_nil ?_
      rintro _ ⟨n6, rfl⟩
      go_wp2_with fail
      refine wp_region_quiet_lit (by kernel_rfl) (by kernel_rfl) ?_
      repeat (go_big_quiet_step ((first
        | (go_at_call 53; with_reducible exact (K17.out _).mono fun _ _ h => ⟨h.1, _, h.2.symm⟩)
        | (go_at_call 53; with_reducible exact (K19.out _).mono fun _ _ h => ⟨h.1, _, h.2.symm⟩)
        | (go_at_call 54; exact (K10.out _).mono fun _ _ h => ⟨h.1, _, h.2.symm⟩))))
      refine wpQuiet_nil ?_
      rintro _ ⟨n7, rfl⟩
      go_wp2_with fail
      have HAD := Lib.hid hab
      obtain ⟨Y, hY⟩ : ∃ Y, Y = (ws.drewN n6).drewN n7 := ⟨_, rfl⟩
      have hby : Below ws.heap.size ws Y := by rw [hY]; exact belowDrewN n7 (belowDrewN n6 (Below.refl _ _))
      have z0 := cell_ext (show Y.cell? (ad8.add (k - 16)) = some (.int .u32 (y0 : Nat)) from by rw [hY]; exact q0)
      have z2 := cell_ext (show Y.cell? (ad8.add (k - 7)) = some (.int .u32 (y2 : Nat)) from by rw [hY]; exact q2)
      have HBY := Lib.hid hby
      have HOY := Lib.hid (HOW.out.next hby)
      have HBQ := Lib.hid (HBW.out.trans (hby.mono (Nat.le_trans hbase HBW.out.size)))
      rw [← hY]
      clear hY q0 q1 q2 q3 hby x0 x1 x2 x3 K7 K18 K17 K19 K3 K10 f1 f2 f3 f4 HOW HBW
      refine wp_region_loudTail 17 Y [134] (fun _ u w => OwnW w Y.heap.size u [r3]) (by kernel_rfl) (by kernel_rfl) (by kernel_rfl) (by have h := HT.out; exact congrArg (fun b => !b && true) h) (fun _ _ _ _ h hb => OwnW.next h hb) (Below.refl _ _).drew ?_
      simp only [List.take_succ_cons, List.take_zero, List.drop_succ_cons, List.drop_zero]
      repeat (first
        | (refine wpLoud_plain rfl rfl rfl ?_; intro K hK; go_big_quiet_op; go_big_quiet_on)
        | (refine wpLoud_make rfl (fun _ _ h => by cases h) rfl 134 rfl rfl (fun y => ⟨_, _, run_oneW y.wd r3 (.tmp 133) rfl rfl, (Below.refl _ _).alloc (Nat.le_refl _) _, OwnW.new y.wd _ [r3] y.2.size (by simp [maxLen])⟩) _ (by simp only [Act.put, List.setIfInBounds_toArray, List.set_cons_succ, List.set_cons_zero]; rfl) ?_))
      refine wpLoud_end [134] (by rfl) ?_
      intro g z hg
      have h134' : OwnW z.wd Y.heap.size (g 134) [r3] := hg 134 (by simp)
      obtain ⟨A9, k9, e9, _, _, r9⟩ := h134'.rd
      have HR9 := Lib.hid r9
      have HOZ := Lib.hid (HOY.out.next z.bel)
      have HBZ := Lib.hid (HBQ.out.trans (z.bel.mono (Nat.le_trans hbase HBQ.out.size)))
      generalize z.wd = Y2 at *
      simp only [fill, Act.put, List.setIfInBounds_toArray, List.set_cons_succ, List.set_cons_zero]
      rw [e9]
      clear hg h134' r9 e9 z0 z2
      go_wp2_with (at_builtin; refine wpList_app _ rfl (.tmp 118) (.tmp 134) _ rfl base 61 i4 (.int .u32 0) 1 4 Tryd.underlying77 hi4 hy0 hy1 hy2 rfl (by decide) _ _ _ rfl HOZ.out _ A9 1 k9 (w32 [r3]) rfl rfl HR9.out (w32_one [_]) (by have := HSL.out; omega) (by have := HSL.out; omega) (by have := HBZ.out.size; omega) ?_; intro v9 w9 hap; have HO9 := Lib.hid (show OwnW w9 base v9 (sch CH (k + 1)) from by rw [HNX.out]; exact OwnW.snoc hap); have HB9 := Lib.hid (show Below base wq w9 from HBZ.out.trans (hap.below HOZ.out (by have := HBZ.out.size; omega))); clear hap)
      refine ⟨⟨k + 1, by rfl, by omega, by omega, by congr 1, HO9.out, HB9.out⟩, ?_⟩
      simp only [intOf]; omega
    · obtain rfl : k = 64 := by omega
      go_wp2_with fail
      exact hexit _ _ _ _ _ _ _ _ _ _ _ _ _ _ _ _ _ _ _ _ _ _ _ _ _ _ _ _ _ _ _ _ _ _ _ _ _ _ _ _ _ _ _ _ _ _ _ _ _ _ _ _ _ _ _ _ _ _ _ _ _ _ _ _ _ _ _ HT.out HOW.out HBW.out
end Go.Proofs.YtbgnjjbmidkhlaaDoor
/- Contract: the document's fingerprint: the rounds. -/
namespace Go.Proofs.YtbgnjjbmidkhlaaDoor
set_option linter.unusedVariables false
set_option linter.unusedSimpArgs false
open Go.RowKit
set_option linter.unusedVariables false
set_option linter.unusedSimpArgs false
set_option maxRecDepth 1000000 in
set_option maxHeartbeats 40000000 in
theorem loop8 (Q : Exit → Act → World → Prop) (wq : World) (gk k8 : Nat) (ad8 : Addr) (S H L : List Nat) (R : Nat → List Nat) (c0 c1 c2 c3 c4 c6 c8 c9 c10 c11 c21 c22 c23 c24 c25 c26 c27 c28 c29 c30 c31 c32 c33 c34 c35 c36 c37 c38 c39 c40 c41 c42 c43 c44 c45 c46 c47 c48 c49 c50 c51 c52 c53 c54 c55 c56 c57 c58 c59 c60 c61 c62 c63 c64 c65 c66 c67 c68 c69 c70 c71 c72 c73 c74 c75 c76 c77 c78 c79 c80 c81 c82 c83 c84 c85 c86 c87 c88 c89 c90 c91 c92 c93 c94 c95 c96 c97 c98 c99 c100 c101 c102 c103 c104 c105 c106 c107 c108 c109 c110 c111 c112 c113 c114 c115 c116 c117 c118 c119 c120 c121 c122 c123 c124 c125 c126 c127 c128 c129 c130 c131 c132 c133 c134 c135 c136 c137 c138 c139 c140 c141 c142 c143 c144 c145 c146 c147 c148 c149 c150 c151 c152 c153 c154 c155 c156 c157 c158 c159 c160 c161 c162 c163 c164 c165 c166 c167 c168 c169 c170 c171 c172 c173 c174 c175 c176 c177 c178 c179 c180 c181 c182 c183 c184 c185 c186 c187 c188 c189 c190 c191 c192 c193 c194 c195 c196 c197 c198 c199 c200 c201 c202 c203 c204 c205 c206 c207 c208 c209 c210 c211 c212 c213 c214 c215 c216 c217 c218 c219 c220 c221 c222 c223 c224 c225 c226 c227 c228 c229 c230 c231 c232 c233 c234 c235 c236 c237 c238 c239 c240 c241 c242 c243 c244 c245 c246 c247 c248 c249 c250 c251 c252 c253 c254 c255 c256 c257 c258 c259 c260 c261 c262 c263 c264 c265 c266 c267 c268 c269 c270 c271 c272 c273 c274 c275 c276 c277 c278 c279 c280 c281 c282 c283 c284 : Value)
    (HKB : Hid (Blk wq gk 61 (vw kc))) (HWC : Hid (∀ i, i < 64 → wq.cell? (ad8.add i) = some (.int .u32 (S.getD i 0 : Nat))))
    (hk8 : 64 ≤ k8) (HWL : Hid (∀ i, S.getD i 0 < 4294967296)) (HRL : Hid (∀ k, (R k).length = 8)) (HRT : Hid (∀ k, ∀ c ∈ R k, c < 4294967296)) (HR0 : Hid (R 0 = H)) (HR6 : Hid (R 64 = L))
    (HRS : Hid (∀ k, R (k + 1) = rnd (kc.getD k 0) (S.getD k 0) (R k)))
    (hexit : ∀ (u20 u21 u22 u23 u160 u161 u162 u163 u164 u165 u166 u167 u168 u169 u170 u171 u172 u173 u174 u175 u176 u177 u178 u179 u180 u181 u182 u183 u184 u185 u186 u187 u188 u189 u190 u191 u192 u193 u194 u195 u196 u197 u198 u199 u200 u201 u202 u203 u204 u205 u206 u207 u208 u209 u210 u211 u212 u213 u214 u215 u216 u217 u218 u219 u220 u221 u222 u223 u224 u225 : Value) (n : Nat), Q (.exit 8) ⟨(c0 :: c1 :: c2 :: c3 :: c4 :: (.slice (some ⟨gk, 0, none⟩) 64 64) :: c6 :: (.slice (some ad8) 64 k8) :: c8 :: c9 :: c10 :: c11 :: (.int .u32 (L.getD 0 0 : Nat)) :: (.int .u32 (L.getD 1 0 : Nat)) :: (.int .u32 (L.getD 2 0 : Nat)) :: (.int .u32 (L.getD 3 0 : Nat)) :: (.int .u32 (L.getD 4 0 : Nat)) :: (.int .u32 (L.getD 5 0 : Nat)) :: (.int .u32 (L.getD 6 0 : Nat)) :: (.int .u32 (L.getD 7 0 : Nat)) :: u20 :: u21 :: u22 :: u23 :: c24 :: c25 :: c26 :: c27 :: c28 :: c29 :: c30 :: c31 :: c32 :: c33 :: c34 :: c35 :: c36 :: c37 :: c38 :: c39 :: c40 :: c41 :: c42 :: c43 :: c44 :: c45 :: c46 :: c47 :: c48 :: c49 :: c50 :: c51 :: c52 :: c53 :: c54 :: c55 :: c56 :: c57 :: c58 :: c59 :: c60 :: c61 :: c62 :: c63 :: c64 :: c65 :: c66 :: c67 :: c68 :: c69 :: c70 :: c71 :: c72 :: c73 :: c74 :: c75 :: c76 :: c77 :: c78 :: c79 :: c80 :: c81 :: c82 :: c83 :: c84 :: c85 :: c86 :: c87 :: c88 :: c89 :: c90 :: c91 :: c92 :: c93 :: c94 :: c95 :: c96 :: c97 :: c98 :: c99 :: c100 :: c101 :: c102 :: c103 :: c104 :: c105 :: c106 :: c107 :: c108 :: c109 :: c110 :: c111 :: c112 :: c113 :: c114 :: c115 :: c116 :: c117 :: c118 :: c119 :: c120 :: c121 :: c122 :: c123 :: c124 :: c125 :: c126 :: c127 :: c128 :: c129 :: c130 :: c131 :: c132 :: c133 :: c134 :: c135 :: c136 :: c137 :: c138 :: c139 :: c140 :: c141 :: c142 :: c143 :: c144 :: c145 :: c146 :: c147 :: c148 :: c149 :: c150 :: c151 :: c152 :: c153 :: c154 :: c155 :: c156 :: c157 :: c158 :: c159 :: u160 :: u161 :: u162 :: u163 :: u164 :: u165 :: u166 :: u167 :: u168 :: u169 :: u170 :: u171 :: u172 :: u173 :: u174 :: u175 :: u176 :: u177 :: u178 :: u179 :: u180 :: u181 :: u182 :: u183 :: u184 :: u185 :: u186 :: u187 :: u188 :: u189 :: u190 :: u191 :: u192 :: u193 :: u194 :: u195 :: u196 :: u197 :: u198 :: u199 :: u200 :: u201 :: u202 :: u203 :: u204 :: u205 :: u206 :: u207 :: u208 :: u209 :: u210 :: u211 :: u212 :: u213 :: u214 :: u215 :: u216 :: u217 :: u218 :: u219 :: u220 :: u221 :: u222 :: u223 :: u224 :: u225 :: c226 :: c227 :: c228 :: c229 :: c230 :: c231 :: c232 :: c233 :: c234 :: c235 :: c236 :: c237 :: c238 :: c239 :: c240 :: c241 :: c242 :: c243 :: c244 :: c245 :: c246 :: c247 :: c248 :: c249 :: c250 :: c251 :: c252 :: c253 :: c254 :: c255 :: c256 :: c257 :: c258 :: c259 :: c260 :: c261 :: c262 :: c263 :: c264 :: c265 :: c266 :: c267 :: c268 :: c269 :: c270 :: c271 :: c272 :: c273 :: c274 :: c275 :: c276 :: c277 :: c278 :: c279 :: c280 :: c281 :: c282 :: c283 :: c284 :: []).toArray, []⟩ (wq.drewN n)) :
    Code.wp Tryd.prog (lp 8) Q ⟨(c0 :: c1 :: c2 :: c3 :: c4 :: (.slice (some ⟨gk, 0, none⟩) 64 64) :: c6 :: (.slice (some ad8) 64 k8) :: c8 :: c9 :: c10 :: c11 :: (.int .u32 (H.getD 0 0 : Nat)) :: (.int .u32 (H.getD 1 0 : Nat)) :: (.int .u32 (H.getD 2 0 : Nat)) :: (.int .u32 (H.getD 3 0 : Nat)) :: (.int .u32 (H.getD 4 0 : Nat)) :: (.int .u32 (H.getD 5 0 : Nat)) :: (.int .u32 (H.getD 6 0 : Nat)) :: (.int .u32 (H.getD 7 0 : Nat)) :: (.int .i64 0) :: c21 :: c22 :: c23 :: c24 :: c25 :: c26 :: c27 :: c28 :: c29 :: c30 :: c31 :: c32 :: c33 :: c34 :: c35 :: c36 :: c37 :: c38 :: c39 :: c40 :: c41 :: c42 :: c43 :: c44 :: c45 :: c46 :: c47 :: c48 :: c49 :: c50 :: c51 :: c52 :: c53 :: c54 :: c55 :: c56 :: c57 :: c58 :: c59 :: c60 :: c61 :: c62 :: c63 :: c64 :: c65 :: c66 :: c67 :: c68 :: c69 :: c70 :: c71 :: c72 :: c73 :: c74 :: c75 :: c76 :: c77 :: c78 :: c79 :: c80 :: c81 :: c82 :: c83 :: c84 :: c85 :: c86 :: c87 :: c88 :: c89 :: c90 :: c91 :: c92 :: c93 :: c94 :: c95 :: c96 :: c97 :: c98 :: c99 :: c100 :: c101 :: c102 :: c103 :: c104 :: c105 :: c106 :: c107 :: c108 :: c109 :: c110 :: c111 :: c112 :: c113 :: c114 :: c115 :: c116 :: c117 :: c118 :: c119 :: c120 :: c121 :: c122 :: c123 :: c124 :: c125 :: c126 :: c127 :: c128 :: c129 :: c130 :: c131 :: c132 :: c133 :: c134 :: c135 :: c136 :: c137 :: c138 :: c139 :: c140 :: c141 :: c142 :: c143 :: c144 :: c145 :: c146 :: c147 :: c148 :: c149 :: c150 :: c151 :: c152 :: c153 :: c154 :: c155 :: c156 :: c157 :: c158 :: c159 :: c160 :: c161 :: c162 :: c163 :: c164 :: c165 :: c166 :: c167 :: c168 :: c169 :: c170 :: c171 :: c172 :: c173 :: c174 :: c175 :: c176 :: c177 :: c178 :: c179 :: c180 :: c181 :: c182 :: c183 :: c184 :: c185 :: c186 :: c187 :: c188 :: c189 :: c190 :: c191 :: c192 :: c193 :: c194 :: c195 :: c196 :: c197 :: c198 :: c199 :: c200 :: c201 :: c202 :: c203 :: c204 :: c205 :: c206 :: c207 :: c208 :: c209 :: c210 :: c211 :: c212 :: c213 :: c214 :: c215 :: c216 :: c217 :: c218 :: c219 :: c220 :: c221 :: c222 :: c223 :: c224 :: c225 :: c226 :: c227 :: c228 :: c229 :: c230 :: c231 :: c232 :: c233 :: c234 :: c235 :: c236 :: c237 :: c238 :: c239 :: c240 :: c241 :: c242 :: c243 :: c244 :: c245 :: c246 :: c247 :: c248 :: c249 :: c250 :: c251 :: c252 :: c253 :: c254 :: c255 :: c256 :: c257 :: c258 :: c259 :: c260 :: c261 :: c262 :: c263 :: c264 :: c265 :: c266 :: c267 :: c268 :: c269 :: c270 :: c271 :: c272 :: c273 :: c274 :: c275 :: c276 :: c277 :: c278 :: c279 :: c280 :: c281 :: c282 :: c283 :: c284 :: []).toArray, []⟩ wq := by
  conv => arg 2; whnf
  go_loopw [12, 13, 14, 15, 16, 17, 18, 19, 20] (fun z0 z1 z2 z3 z4 z5 z6 z7 z20 wr => ∃ k n : Nat, k ≤ 64 ∧ z20 = .int .i64 (k : Int) ∧ wr = wq.drewN n ∧ z0 = .int .u32 ((R k).getD 0 0 : Nat) ∧ z1 = .int .u32 ((R k).getD 1 0 : Nat) ∧ z2 = .int .u32 ((R k).getD 2 0 : Nat) ∧ z3 = .int .u32 ((R k).getD 3 0 : Nat) ∧ z4 = .int .u32 ((R k).getD 4 0 : Nat) ∧ z5 = .int .u32 ((R k).getD 5 0 : Nat) ∧ z6 = .int .u32 ((R k).getD 6 0 : Nat) ∧ z7 = .int .u32 ((R k).getD 7 0 : Nat)) (fun _ _ _ _ _ _ _ _ z20 _ => 64 - (intOf z20).toNat)
  case atStart => exact ⟨0, 0, by omega, rfl, rfl, by rw [HR0.out], by rw [HR0.out], by rw [HR0.out], by rw [HR0.out], by rw [HR0.out], by rw [HR0.out], by rw [HR0.out], by rw [HR0.out]⟩
  case round =>
    rename World => wr
    obtain ⟨k, n, hk, rfl, rfl, rfl, rfl, rfl, rfl, rfl, rfl, rfl, rfl⟩ := hrel
    by_cases hlt : k < 64
    · have hwl := HWL.out k
      have hwc : wq.cell? (ad8.add k) = some (.int .u32 (S.getD k 0 : Nat)) := HWC.out k hlt
      have hkl : kc.getD k 0 < 4294967296 := by
        rw [List.getD_eq_getElem?_getD, List.getElem?_eq_getElem (show k < kc.length from hlt)]
        exact (show ∀ c ∈ kc, c < 4294967296 by decide) _ (List.getElem_mem _)
      have hkc : wq.cell? ⟨gk, k, none⟩ = some (.int .u32 (kc.getD k 0 : Nat)) := by
        have h1 := HKB.out.cell k
        rw [vw_at _ _ hlt] at h1
        refine h1.trans ?_
        rw [List.getD_eq_getElem?_getD]
      have HST := Lib.hid (HRS.out k)
      have hvl := HRT.out k
      obtain ⟨v0, v1, v2, v3, v4, v5, v6, v7, hv⟩ := len8 (HRL.out k)
      rw [hv] at HST hvl ⊢
      clear hv
      generalize S.getD k 0 = ww at *
      generalize kc.getD k 0 = kk at *
      have l0 := hvl v0 (by simp)
      have l1 := hvl v1 (by simp)
      have l2 := hvl v2 (by simp)
      have l3 := hvl v3 (by simp)
      have l4 := hvl v4 (by simp)
      have l5 := hvl v5 (by simp)
      have l6 := hvl v6 (by simp)
      have l7 := hvl v7 (by simp)
      clear hvl
      simp only [List.getD_cons_zero, List.getD_cons_succ]
      have K6 := Lib.hid (show ∀ W, Calls Tryd.prog 53 #[.int .u32 (v4 : Nat), .int .i64 6] W fun e w' => e = .returned (.int .u32 (rotr v4 6 : Nat)) ∧ W = w' from fun W => rturn_c v4 6 W (by assumption) (by decide))
      have K11 := Lib.hid (show ∀ W, Calls Tryd.prog 53 #[.int .u32 (v4 : Nat), .int .i64 11] W fun e w' => e = .returned (.int .u32 (rotr v4 11 : Nat)) ∧ W = w' from fun W => rturn_c v4 11 W (by assumption) (by decide))
      have K25 := Lib.hid (show ∀ W, Calls Tryd.prog 53 #[.int .u32 (v4 : Nat), .int .i64 25] W fun e w' => e = .returned (.int .u32 (rotr v4 25 : Nat)) ∧ W = w' from fun W => rturn_c v4 25 W (by assumption) (by decide))
      have K2 := Lib.hid (show ∀ W, Calls Tryd.prog 53 #[.int .u32 (v0 : Nat), .int .i64 2] W fun e w' => e = .returned (.int .u32 (rotr v0 2 : Nat)) ∧ W = w' from fun W => rturn_c v0 2 W (by assumption) (by decide))
      have K13 := Lib.hid (show ∀ W, Calls Tryd.prog 53 #[.int .u32 (v0 : Nat), .int .i64 13] W fun e w' => e = .returned (.int .u32 (rotr v0 13 : Nat)) ∧ W = w' from fun W => rturn_c v0 13 W (by assumption) (by decide))
      have K22 := Lib.hid (show ∀ W, Calls Tryd.prog 53 #[.int .u32 (v0 : Nat), .int .i64 22] W fun e w' => e = .returned (.int .u32 (rotr v0 22 : Nat)) ∧ W = w' from fun W => rturn_c v0 22 W (by assumption) (by decide))
      have e1 : bits BinOp.xor .u32 ((rotr v4 6 : Nat) : Int) ((rotr v4 11 : Nat) : Int) = ((rotr v4 6 ^^^ rotr v4 11 : Nat) : Int) := u32_xor_nat _ _ (rotr_lt l4 (by decide)) (rotr_lt l4 (by decide))
      have e2 : bits BinOp.xor .u32 ((rotr v4 6 ^^^ rotr v4 11 : Nat) : Int) ((rotr v4 25 : Nat) : Int) = ((b1 v4 : Nat) : Int) := u32_xor_nat _ _ (xor_w (rotr_lt l4 (by decide)) (rotr_lt l4 (by decide))) (rotr_lt l4 (by decide))
      have e3 : bits BinOp.xor .u32 ((rotr v0 2 : Nat) : Int) ((rotr v0 13 : Nat) : Int) = ((rotr v0 2 ^^^ rotr v0 13 : Nat) : Int) := u32_xor_nat _ _ (rotr_lt l0 (by decide)) (rotr_lt l0 (by decide))
      have e4 : bits BinOp.xor .u32 ((rotr v0 2 ^^^ rotr v0 13 : Nat) : Int) ((rotr v0 22 : Nat) : Int) = ((b0 v0 : Nat) : Int) := u32_xor_nat _ _ (xor_w (rotr_lt l0 (by decide)) (rotr_lt l0 (by decide))) (rotr_lt l0 (by decide))
      have nx : (4294967295 : Int) - (v4 : Int) = ((4294967295 - v4 : Nat) : Int) := by omega
      have f1 := u32_and_nat v4 v5 l4 l5
      have f2 := u32_and_nat (4294967295 - v4) v6 (by omega) l6
      have f3 : bits BinOp.xor .u32 ((v4 &&& v5 : Nat) : Int) (((4294967295 - v4) &&& v6 : Nat) : Int) = ((chf v4 v5 v6 : Nat) : Int) := u32_xor_nat _ _ (and_w l4) (and_w (by omega))
      have f4 := u32_and_nat v0 v1 l0 l1
      have f5 := u32_and_nat v0 v2 l0 l2
      have f6 := u32_and_nat v1 v2 l1 l2
      have f7 : bits BinOp.xor .u32 ((v0 &&& v1 : Nat) : Int) ((v0 &&& v2 : Nat) : Int) = (((v0 &&& v1) ^^^ (v0 &&& v2) : Nat) : Int) := u32_xor_nat _ _ (and_w l0) (and_w l0)
      have f8 : bits BinOp.xor .u32 (((v0 &&& v1) ^^^ (v0 &&& v2) : Nat) : Int) ((v1 &&& v2 : Nat) : Int) = ((maj v0 v1 v2 : Nat) : Int) := u32_xor_nat _ _ (xor_w (and_w l0) (and_w l0)) (and_w l1)
      have g1 := wrap32_add v7 (b1 v4)
      have g2 := wrap32_add (ad v7 (b1 v4)) (chf v4 v5 v6)
      have g3 := wrap32_add (ad (ad v7 (b1 v4)) (chf v4 v5 v6)) kk
      have g4 := wrap32_add (ad (ad (ad v7 (b1 v4)) (chf v4 v5 v6)) kk) ww
      have g5 := wrap32_add (b0 v0) (maj v0 v1 v2)
      have g6 := wrap32_add v3 (ad (ad (ad (ad v7 (b1 v4)) (chf v4 v5 v6)) kk) ww)
      have g7 := wrap32_add (ad (ad (ad (ad v7 (b1 v4)) (chf v4 v5 v6)) kk) ww) (ad (b0 v0) (maj v0 v1 v2))
      have hrnd : rnd kk ww [v0, v1, v2, v3, v4, v5, v6, v7] = [ad (ad (ad (ad (ad v7 (b1 v4)) (chf v4 v5 v6)) kk) ww) (ad (b0 v0) (maj v0 v1 v2)), v0, v1, v2, ad v3 (ad (ad (ad (ad v7 (b1 v4)) (chf v4 v5 v6)) kk) ww), v4, v5, v6] := rfl
      rw [hrnd] at HST
      clear hrnd
      generalize ad (ad (ad (ad (ad v7 (b1 v4)) (chf v4 v5 v6)) kk) ww) (ad (b0 v0) (maj v0 v1 v2)) = n0 at *
      generalize ad v3 (ad (ad (ad (ad v7 (b1 v4)) (chf v4 v5 v6)) kk) ww) = n4 at *
      generalize ad (ad (ad (ad v7 (b1 v4)) (chf v4 v5 v6)) kk) ww = one at *
      generalize ad (b0 v0) (maj v0 v1 v2) = two at *
      generalize ad (ad (ad v7 (b1 v4)) (chf v4 v5 v6)) kk = o3 at *
      generalize ad (ad v7 (b1 v4)) (chf v4 v5 v6) = o2 at *
      generalize ad v7 (b1 v4) = o1 at *
      generalize maj v0 v1 v2 = mj at *
      generalize chf v4 v5 v6 = cf at *
      generalize b1 v4 = bE at *
      generalize b0 v0 = bA at *
      generalize (4294967295 - v4) &&& v6 = q2 at *
      generalize 4294967295 - v4 = q1 at *
      generalize (v0 &&& v1) ^^^ (v0 &&& v2) = q6 at *
      generalize v0 &&& v1 = q3 at *
      generalize v0 &&& v2 = q4 at *
      generalize v1 &&& v2 = q5 at *
      generalize v4 &&& v5 = q0 at *
      generalize rotr v4 6 ^^^ rotr v4 11 = r0 at *
      generalize rotr v0 2 ^^^ rotr v0 13 = r1 at *
      generalize rotr v4 6 = r2 at *
      generalize rotr v4 11 = r3 at *
      generalize rotr v4 25 = r4 at *
      generalize rotr v0 2 = r5 at *
      generalize rotr v0 13 = r6 at *
      generalize rotr v0 22 = r7 at *
      go_wp2_with (first
        | (go_at_call 53; (with_reducible refine (K6.out _).mono ?_); rintro e wn ⟨rfl, rfl⟩)
        | (go_at_call 53; (with_reducible refine (K11.out _).mono ?_); rintro e wn ⟨rfl, rfl⟩)
        | (go_at_call 53; (with_reducible refine (K25.out _).mono ?_); rintro e wn ⟨rfl, rfl⟩))
      refine wp_region_quiet_lit (by kernel_rfl) (by kernel_rfl) ?_
      repeat (go_big_quiet_step (fail))
      refine wpQuiet_nil ?_
      rintro _ ⟨n6, rfl⟩
      go_wp2_with (first
        | (go_at_call 53; (with_reducible refine (K2.out _).mono ?_); rintro e wn ⟨rfl, rfl⟩)
        | (go_at_call 53; (with_reducible refine (K13.out _).mono ?_); rintro e wn ⟨rfl, rfl⟩)
        | (go_at_call 53; (with_reducible refine (K22.out _).mono ?_); rintro e wn ⟨rfl, rfl⟩))
      refine ⟨⟨k + 1, n + n6, by omega, by congr 1, ?_, ?_, ?_, ?_, ?_, ?_, ?_, ?_, ?_⟩, ?_⟩
      · first | rfl | exact World.drewN_drewN _ _ _
      all_goals first
        | (rw [HST.out]; simp only [List.getD_cons_zero, List.getD_cons_succ])
        | (simp only [intOf]; omega)
    · obtain rfl : k = 64 := by omega
      rw [HR6.out]
      go_wp2_with fail
      exact hexit _ _ _ _ _ _ _ _ _ _ _ _ _ _ _ _ _ _ _ _ _ _ _ _ _ _ _ _ _ _ _ _ _ _ _ _ _ _ _ _ _ _ _ _ _ _ _ _ _ _ _ _ _ _ _ _ _ _ _ _ _ _ _ _ _ _ _ _ _ _ _
end Go.Proofs.YtbgnjjbmidkhlaaDoor
/- Contract: the document's fingerprint: the blocks. -/
namespace Go.Proofs.YtbgnjjbmidkhlaaDoor
set_option linter.unusedVariables false
set_option linter.unusedSimpArgs false
open Go.RowKit
set_option linter.unusedVariables false
set_option linter.unusedSimpArgs false
theorem rds_next (l h : List Nat) (k : Nat) : rds l h (k + 1) = rnd (kc.getD k 0) ((sch l 64).getD k 0) (rds l h k) := rfl
def blk8 (h l : List Nat) : List Nat := [ad (h.getD 0 0) (l.getD 0 0), ad (h.getD 1 0) (l.getD 1 0), ad (h.getD 2 0) (l.getD 2 0), ad (h.getD 3 0) (l.getD 3 0), ad (h.getD 4 0) (l.getD 4 0), ad (h.getD 5 0) (l.getD 5 0), ad (h.getD 6 0) (l.getD 6 0), ad (h.getD 7 0) (l.getD 7 0)]
theorem blk_eq (l h : List Nat) : blk l h = blk8 h (rds l h 64) := by
  unfold blk
  generalize rds l h 64 = L
  rfl
theorem vw_at' (l : List Nat) (k : Nat) (h : k < l.length) : (vw l)[k]? = some (.int .u32 (l.getD k 0 : Nat)) := by
  rw [vw_at _ _ h, List.getD_eq_getElem?_getD]
set_option maxRecDepth 1000000 in
set_option maxHeartbeats 40000000 in
theorem loop2 (Q : Exit → Act → World → Prop) (wq : World) (gp nb kp gk gh : Nat) (P : List Nat) (rest : List Value) (F : Nat → List Nat) (t134 : Value) (c0 c1 c2 c7 c8 c9 c10 c11 c12 c13 c14 c15 c16 c17 c18 c19 c20 c21 c22 c23 c24 c25 c26 c27 c28 c29 c30 c31 c32 c33 c34 c35 c36 c37 c38 c39 c40 c41 c42 c43 c44 c45 c46 c47 c48 c49 c50 c51 c52 c53 c54 c55 c56 c57 c58 c59 c60 c61 c62 c63 c64 c65 c66 c67 c68 c69 c70 c71 c72 c73 c74 c75 c76 c77 c78 c79 c80 c81 c82 c83 c84 c85 c86 c87 c88 c89 c90 c91 c92 c93 c94 c95 c96 c97 c98 c99 c100 c101 c102 c103 c104 c105 c106 c107 c108 c109 c110 c111 c112 c113 c114 c115 c116 c117 c118 c119 c120 c121 c122 c123 c124 c125 c126 c127 c128 c129 c130 c131 c132 c133 c135 c136 c137 c138 c139 c140 c141 c142 c143 c144 c145 c146 c147 c148 c149 c150 c151 c152 c153 c154 c155 c156 c157 c158 c159 c160 c161 c162 c163 c164 c165 c166 c167 c168 c169 c170 c171 c172 c173 c174 c175 c176 c177 c178 c179 c180 c181 c182 c183 c184 c185 c186 c187 c188 c189 c190 c191 c192 c193 c194 c195 c196 c197 c198 c199 c200 c201 c202 c203 c204 c205 c206 c207 c208 c209 c210 c211 c212 c213 c214 c215 c216 c217 c218 c219 c220 c221 c222 c223 c224 c225 c226 c227 c228 c229 c230 c231 c232 c233 c234 c235 c236 c237 c238 c239 c240 c241 c242 c243 c244 c245 c246 c247 c248 c249 c250 c251 c252 c253 c254 c255 c256 c257 c258 c259 c260 c261 c262 c263 c264 c265 c266 c267 c268 c269 c270 c271 c272 c273 c274 c275 c276 c277 c278 c279 c280 c281 c282 c283 c284 : Value)
    (hnbl : nb ≤ 1000) (hkp : 64 * nb ≤ kp) (hkp2 : kp ≤ maxLen) (HPD : Hid (∀ c ∈ P, c < 256)) (HPN : Hid (P.length = 64 * nb))
    (HPB : Hid (Blk wq gp 5 (byt P ++ rest).toArray)) (HKB : Hid (Blk wq gk 61 (vw kc))) (HHB : Hid (Blk wq gh 61 (vw (F 0))))
    (HF8 : Hid (∀ j, (F j).length = 8)) (HFT : Hid (∀ j, ∀ c ∈ F j, c < 4294967296)) (HFS : Hid (∀ j, F (j + 1) = blk ((P.drop (64 * j)).take 64) (F j))) (h134 : isTok t134 = false)
    (hexit : ∀ (u6 u7 u8 u9 u10 u11 u12 u13 u14 u15 u16 u17 u18 u19 u20 u21 u22 u23 u48 u49 u50 u51 u52 u53 u54 u55 u56 u57 u58 u59 u60 u61 u62 u63 u64 u65 u66 u67 u68 u69 u70 u71 u72 u73 u74 u75 u76 u77 u78 u79 u80 u81 u82 u83 u84 u85 u86 u87 u88 u89 u90 u91 u92 u93 u94 u95 u96 u97 u98 u99 u100 u101 u102 u103 u104 u105 u106 u107 u108 u109 u110 u111 u112 u113 u114 u115 u116 u117 u118 u119 u120 u121 u122 u123 u124 u125 u126 u127 u128 u129 u130 u131 u132 u133 u134 u135 u136 u137 u138 u139 u140 u141 u142 u143 u144 u145 u146 u147 u148 u149 u150 u151 u152 u153 u154 u155 u156 u157 u158 u159 u160 u161 u162 u163 u164 u165 u166 u167 u168 u169 u170 u171 u172 u173 u174 u175 u176 u177 u178 u179 u180 u181 u182 u183 u184 u185 u186 u187 u188 u189 u190 u191 u192 u193 u194 u195 u196 u197 u198 u199 u200 u201 u202 u203 u204 u205 u206 u207 u208 u209 u210 u211 u212 u213 u214 u215 u216 u217 u218 u219 u220 u221 u222 u223 u224 u225 u226 u227 u228 u229 u230 u231 u232 u233 u234 u235 u236 u237 u238 u239 u240 u241 u242 u243 u244 u245 u246 u247 u248 u249 u250 u251 u252 u253 u254 u255 u256 u257 u258 u259 u260 u261 u262 u263 u264 u265 u266 : Value) (g : Nat) (ws : World), Blk ws g 61 (vw (F nb)) → Below wq.heap.size wq ws → Q (.exit 2) ⟨(c0 :: c1 :: c2 :: (.slice (some ⟨gp, 0, none⟩) (64 * nb) kp) :: (.slice (some ⟨g, 0, none⟩) 8 8) :: (.slice (some ⟨gk, 0, none⟩) 64 64) :: u6 :: u7 :: u8 :: u9 :: u10 :: u11 :: u12 :: u13 :: u14 :: u15 :: u16 :: u17 :: u18 :: u19 :: u20 :: u21 :: u22 :: u23 :: c24 :: c25 :: c26 :: c27 :: c28 :: c29 :: c30 :: c31 :: c32 :: c33 :: c34 :: c35 :: c36 :: c37 :: c38 :: c39 :: c40 :: c41 :: c42 :: c43 :: c44 :: c45 :: c46 :: c47 :: u48 :: u49 :: u50 :: u51 :: u52 :: u53 :: u54 :: u55 :: u56 :: u57 :: u58 :: u59 :: u60 :: u61 :: u62 :: u63 :: u64 :: u65 :: u66 :: u67 :: u68 :: u69 :: u70 :: u71 :: u72 :: u73 :: u74 :: u75 :: u76 :: u77 :: u78 :: u79 :: u80 :: u81 :: u82 :: u83 :: u84 :: u85 :: u86 :: u87 :: u88 :: u89 :: u90 :: u91 :: u92 :: u93 :: u94 :: u95 :: u96 :: u97 :: u98 :: u99 :: u100 :: u101 :: u102 :: u103 :: u104 :: u105 :: u106 :: u107 :: u108 :: u109 :: u110 :: u111 :: u112 :: u113 :: u114 :: u115 :: u116 :: u117 :: u118 :: u119 :: u120 :: u121 :: u122 :: u123 :: u124 :: u125 :: u126 :: u127 :: u128 :: u129 :: u130 :: u131 :: u132 :: u133 :: u134 :: u135 :: u136 :: u137 :: u138 :: u139 :: u140 :: u141 :: u142 :: u143 :: u144 :: u145 :: u146 :: u147 :: u148 :: u149 :: u150 :: u151 :: u152 :: u153 :: u154 :: u155 :: u156 :: u157 :: u158 :: u159 :: u160 :: u161 :: u162 :: u163 :: u164 :: u165 :: u166 :: u167 :: u168 :: u169 :: u170 :: u171 :: u172 :: u173 :: u174 :: u175 :: u176 :: u177 :: u178 :: u179 :: u180 :: u181 :: u182 :: u183 :: u184 :: u185 :: u186 :: u187 :: u188 :: u189 :: u190 :: u191 :: u192 :: u193 :: u194 :: u195 :: u196 :: u197 :: u198 :: u199 :: u200 :: u201 :: u202 :: u203 :: u204 :: u205 :: u206 :: u207 :: u208 :: u209 :: u210 :: u211 :: u212 :: u213 :: u214 :: u215 :: u216 :: u217 :: u218 :: u219 :: u220 :: u221 :: u222 :: u223 :: u224 :: u225 :: u226 :: u227 :: u228 :: u229 :: u230 :: u231 :: u232 :: u233 :: u234 :: u235 :: u236 :: u237 :: u238 :: u239 :: u240 :: u241 :: u242 :: u243 :: u244 :: u245 :: u246 :: u247 :: u248 :: u249 :: u250 :: u251 :: u252 :: u253 :: u254 :: u255 :: u256 :: u257 :: u258 :: u259 :: u260 :: u261 :: u262 :: u263 :: u264 :: u265 :: u266 :: c267 :: c268 :: c269 :: c270 :: c271 :: c272 :: c273 :: c274 :: c275 :: c276 :: c277 :: c278 :: c279 :: c280 :: c281 :: c282 :: c283 :: c284 :: []).toArray, []⟩ ws) :
    Code.wp Tryd.prog (lp 2) Q ⟨(c0 :: c1 :: c2 :: (.slice (some ⟨gp, 0, none⟩) (64 * nb) kp) :: (.slice (some ⟨gh, 0, none⟩) 8 8) :: (.slice (some ⟨gk, 0, none⟩) 64 64) :: (.int .i64 0) :: c7 :: c8 :: c9 :: c10 :: c11 :: c12 :: c13 :: c14 :: c15 :: c16 :: c17 :: c18 :: c19 :: c20 :: c21 :: c22 :: c23 :: c24 :: c25 :: c26 :: c27 :: c28 :: c29 :: c30 :: c31 :: c32 :: c33 :: c34 :: c35 :: c36 :: c37 :: c38 :: c39 :: c40 :: c41 :: c42 :: c43 :: c44 :: c45 :: c46 :: c47 :: c48 :: c49 :: c50 :: c51 :: c52 :: c53 :: c54 :: c55 :: c56 :: c57 :: c58 :: c59 :: c60 :: c61 :: c62 :: c63 :: c64 :: c65 :: c66 :: c67 :: c68 :: c69 :: c70 :: c71 :: c72 :: c73 :: c74 :: c75 :: c76 :: c77 :: c78 :: c79 :: c80 :: c81 :: c82 :: c83 :: c84 :: c85 :: c86 :: c87 :: c88 :: c89 :: c90 :: c91 :: c92 :: c93 :: c94 :: c95 :: c96 :: c97 :: c98 :: c99 :: c100 :: c101 :: c102 :: c103 :: c104 :: c105 :: c106 :: c107 :: c108 :: c109 :: c110 :: c111 :: c112 :: c113 :: c114 :: c115 :: c116 :: c117 :: c118 :: c119 :: c120 :: c121 :: c122 :: c123 :: c124 :: c125 :: c126 :: c127 :: c128 :: c129 :: c130 :: c131 :: c132 :: c133 :: t134 :: c135 :: c136 :: c137 :: c138 :: c139 :: c140 :: c141 :: c142 :: c143 :: c144 :: c145 :: c146 :: c147 :: c148 :: c149 :: c150 :: c151 :: c152 :: c153 :: c154 :: c155 :: c156 :: c157 :: c158 :: c159 :: c160 :: c161 :: c162 :: c163 :: c164 :: c165 :: c166 :: c167 :: c168 :: c169 :: c170 :: c171 :: c172 :: c173 :: c174 :: c175 :: c176 :: c177 :: c178 :: c179 :: c180 :: c181 :: c182 :: c183 :: c184 :: c185 :: c186 :: c187 :: c188 :: c189 :: c190 :: c191 :: c192 :: c193 :: c194 :: c195 :: c196 :: c197 :: c198 :: c199 :: c200 :: c201 :: c202 :: c203 :: c204 :: c205 :: c206 :: c207 :: c208 :: c209 :: c210 :: c211 :: c212 :: c213 :: c214 :: c215 :: c216 :: c217 :: c218 :: c219 :: c220 :: c221 :: c222 :: c223 :: c224 :: c225 :: c226 :: c227 :: c228 :: c229 :: c230 :: c231 :: c232 :: c233 :: c234 :: c235 :: c236 :: c237 :: c238 :: c239 :: c240 :: c241 :: c242 :: c243 :: c244 :: c245 :: c246 :: c247 :: c248 :: c249 :: c250 :: c251 :: c252 :: c253 :: c254 :: c255 :: c256 :: c257 :: c258 :: c259 :: c260 :: c261 :: c262 :: c263 :: c264 :: c265 :: c266 :: c267 :: c268 :: c269 :: c270 :: c271 :: c272 :: c273 :: c274 :: c275 :: c276 :: c277 :: c278 :: c279 :: c280 :: c281 :: c282 :: c283 :: c284 :: []).toArray, []⟩ wq := by
  conv => arg 2; whnf
  have hgp := HPB.out.lt
  go_loopw [4, 6, 134] (fun vh va vt wr => ∃ j : Nat, j ≤ nb ∧ isTok vt = false ∧ va = .int .i64 (64 * (j : Int)) ∧ (∃ g, vh = .slice (some ⟨g, 0, none⟩) 8 8 ∧ Blk wr g 61 (vw (F j))) ∧ Below wq.heap.size wq wr) (fun _ va _ _ => 64 * nb - (intOf va).toNat)
  case atStart => exact ⟨0, by omega, h134, rfl, ⟨gh, rfl, HHB.out⟩, Below.refl _ _⟩
  case round =>
    rename World => wr
    obtain ⟨j, hj, ht, rfl, ⟨g, rfl, hbl⟩, hb⟩ := hrel
    have HT := Lib.hid ht
    have HHG := Lib.hid hbl
    have HBQ := Lib.hid hb
    clear hbl hb HHB ht h134
    by_cases hlt : j < nb
    · obtain ⟨CH, hCH⟩ : ∃ CH, CH = (P.drop (64 * j)).take 64 := ⟨_, rfl⟩
      have hCl : CH.length = 64 := by rw [hCH, List.length_take, List.length_drop, HPN.out]; omega
      have HCL := Lib.hid (show ∀ c ∈ CH, c < 256 from fun c hc => HPD.out c (by rw [hCH] at hc; exact List.mem_of_mem_drop (List.mem_of_mem_take hc)))
      have HFJ := Lib.hid (show F (j + 1) = blk CH (F j) by rw [hCH]; exact HFS.out j)
      have HCP := Lib.hid (show ∀ i, i < 64 → P.getD (64 * j + i) 0 = CH.getD i 0 from fun i hi => by
        rw [hCH, List.getD_eq_getElem?_getD, List.getD_eq_getElem?_getD, List.getElem?_take_of_lt hi, List.getElem?_drop])
      have HPW := Lib.hid (HPB.out.below HBQ.out HPB.out.lt)
      have HFL := Lib.hid (HF8.out j)
      have HFB := Lib.hid (HFT.out j)
      clear hCH
      go_wp2_with fail
      refine loop4 _ wr gp nb kp j P CH rest _ _ _ _ _ _ _ _ _ _ _ _ _ _ _ _ _ _ _ _ _ _ _ _ _ _ _ _ _ _ _ _ _ _ _ _ _ _ _ _ _ _ _ _ _ _ _ _ _ _ _ _ _ _ _ _ _ _ _ _ _ _ _ _ _ _ _ _ _ _ _ _ _ _ _ _ _ _ _ _ _ _ _ _ _ _ _ _ _ _ _ _ _ _ _ _ _ _ _ _ _ _ _ _ _ _ _ _ _ _ _ _ _ _ _ _ _ _ _ _ _ _ _ _ _ _ _ _ _ _ _ _ _ _ _ _ _ _ _ _ _ _ _ _ _ _ _ _ _ _ _ _ _ _ _ _ _ _ _ _ _ _ _ _ _ _ _ _ _ _ _ _ _ _ _ _ _ _ _ _ _ _ _ _ _ _ _ _ _ _ _ _ _ _ _ _ _ _ _ _ _ _ _ _ _ _ _ _ _ _ _ _ _ _ _ _ _ _ _ _ _ _ _ _ _ _ _ _ _ _ _ _ _ _ _ _ _ _ _ _ _ _ _ _ _ _ _ _ _ _ _ _ _ _ _ _ _ _ _ _ _ _ _ _ _ _ _ _ _ _ _ _ _ _ _ _ _ _ _ _ _ hlt hnbl hkp hkp2 hCl HCL HCP HPN HPW ?_
      intro x8 x54 x55 x56 x57 x58 x59 x60 x61 x62 x63 x64 x65 x66 x67 x68 x69 x70 x71 x72 x73 v4 ws4 ho4 hb4
      have HO4 := Lib.hid ho4
      have HB4 := Lib.hid hb4
      clear ho4 hb4
      go_wp2_with fail
      refine loop6 _ ws4 wr.heap.size CH v4 _ _ _ _ _ _ _ _ _ _ _ _ _ _ _ _ _ _ _ _ _ _ _ _ _ _ _ _ _ _ _ _ _ _ _ _ _ _ _ _ _ _ _ _ _ _ _ _ _ _ _ _ _ _ _ _ _ _ _ _ _ _ _ _ _ _ _ _ _ _ _ _ _ _ _ _ _ _ _ _ _ _ _ _ _ _ _ _ _ _ _ _ _ _ _ _ _ _ _ _ _ _ _ _ _ _ _ _ _ _ _ _ _ _ _ _ _ _ _ _ _ _ _ _ _ _ _ _ _ _ _ _ _ _ _ _ _ _ _ _ _ _ _ _ _ _ _ _ _ _ _ _ _ _ _ _ _ _ _ _ _ _ _ _ _ _ _ _ _ _ _ _ _ _ _ _ _ _ _ _ _ _ _ _ _ _ _ _ _ _ _ _ _ _ _ _ _ _ _ _ _ _ _ _ _ _ _ _ _ _ _ _ _ _ _ _ _ _ _ _ _ _ _ _ _ _ _ _ _ _ _ _ _ _ _ _ _ _ _ _ _ _ _ _ _ _ _ _ _ _ _ _ _ _ _ _ _ _ _ _ _ _ _ _ _ _ _ _ _ _ _ _ _ _ _ _ _ _ _ _ _ _ _ HCL HO4 HB4.out.size HT.out ?_
      intro y9 y10 y11 y74 y75 y76 y77 y78 y79 y80 y81 y82 y83 y84 y85 y86 y87 y88 y89 y90 y91 y92 y93 y94 y95 y96 y97 y98 y99 y100 y101 y102 y103 y104 y105 y106 y107 y108 y109 y110 y111 y112 y113 y114 y115 y116 y117 y118 y119 y120 y121 y122 y123 y124 y125 y126 y127 y128 y129 y130 y131 y132 y133 y135 v6 t6 ws6 ht6 ho6 hb6
      have HT6 := Lib.hid ht6
      have HB6 := Lib.hid (HB4.out.trans hb6)
      obtain ⟨A8, k8, rfl, hk8, _, hr8⟩ := ho6.rd
      obtain ⟨ad8, rfl, _, hc8⟩ := hr8.wordAt (by rw [sch_len]; omega)
      have HC8 := Lib.hid (show ∀ i, i < 64 → ws6.cell? (ad8.add i) = some (.int .u32 ((sch CH 64).getD i 0 : Nat)) from fun i hi => hc8 i (by rw [sch_len]; exact hi))
      have HSB := Lib.hid (show ∀ i, (sch CH 64).getD i 0 < 4294967296 from sch_at_lt HCL.out 64)
      rw [sch_len] at hk8 ⊢
      clear ht6 ho6 hb6 hr8 hc8 HO4 HT
      have HHG6 := Lib.hid (HHG.out.below HB6.out HHG.out.lt)
      have HKB6 := Lib.hid ((HKB.out.below HBQ.out HKB.out.lt).below HB6.out (Nat.lt_of_lt_of_le HKB.out.lt HBQ.out.size))
      obtain ⟨R, hR⟩ : ∃ R, R = rds CH (F j) := ⟨_, rfl⟩
      have HR0 := Lib.hid (show R 0 = F j by rw [hR]; rfl)
      obtain ⟨L, hL⟩ : ∃ L, L = R 64 := ⟨_, rfl⟩
      obtain ⟨S, hS⟩ : ∃ S, S = sch CH 64 := ⟨_, rfl⟩
      have HRS := Lib.hid (show ∀ k, R (k + 1) = rnd (kc.getD k 0) (S.getD k 0) (R k) by rw [hR, hS]; exact fun k => rds_next _ _ k)
      have HRL := Lib.hid (show ∀ k, (R k).length = 8 by rw [hR]; exact fun k => rds_len HFL.out k)
      have HRT := Lib.hid (show ∀ k, ∀ c ∈ R k, c < 4294967296 by rw [hR]; exact fun k => rds_lt CH HFB.out k)
      have HR6 := Lib.hid hL.symm
      have HBK := Lib.hid (show F (j + 1) = blk8 (F j) L by rw [hL, hR, HFJ.out]; exact blk_eq _ _)
      rw [← hS] at HC8 HSB
      clear hR hL hS
      generalize F j = H at *
      have e0 : ws6.cell? ⟨g, 0, none⟩ = some (.int .u32 (H.getD 0 0 : Nat)) := (HHG6.out.cell 0).trans (vw_at' H 0 (by rw [HFL.out]; omega))
      have e1 : ws6.cell? ⟨g, 1, none⟩ = some (.int .u32 (H.getD 1 0 : Nat)) := (HHG6.out.cell 1).trans (vw_at' H 1 (by rw [HFL.out]; omega))
      have e2 : ws6.cell? ⟨g, 2, none⟩ = some (.int .u32 (H.getD 2 0 : Nat)) := (HHG6.out.cell 2).trans (vw_at' H 2 (by rw [HFL.out]; omega))
      have e3 : ws6.cell? ⟨g, 3, none⟩ = some (.int .u32 (H.getD 3 0 : Nat)) := (HHG6.out.cell 3).trans (vw_at' H 3 (by rw [HFL.out]; omega))
      have e4 : ws6.cell? ⟨g, 4, none⟩ = some (.int .u32 (H.getD 4 0 : Nat)) := (HHG6.out.cell 4).trans (vw_at' H 4 (by rw [HFL.out]; omega))
      have e5 : ws6.cell? ⟨g, 5, none⟩ = some (.int .u32 (H.getD 5 0 : Nat)) := (HHG6.out.cell 5).trans (vw_at' H 5 (by rw [HFL.out]; omega))
      have e6 : ws6.cell? ⟨g, 6, none⟩ = some (.int .u32 (H.getD 6 0 : Nat)) := (HHG6.out.cell 6).trans (vw_at' H 6 (by rw [HFL.out]; omega))
      have e7 : ws6.cell? ⟨g, 7, none⟩ = some (.int .u32 (H.getD 7 0 : Nat)) := (HHG6.out.cell 7).trans (vw_at' H 7 (by rw [HFL.out]; omega))
      go_wp2_with fail
      refine wp_region_quiet_lit (by kernel_rfl) (by kernel_rfl) ?_
      repeat (go_big_quiet_step (fail))
      refine wpQuiet_nil ?_
      rintro _ ⟨n6, rfl⟩
      go_wp2_with fail
      refine loop8 _ (ws6.drewN n6) gk k8 ad8 S H L R _ _ _ _ _ _ _ _ _ _ _ _ _ _ _ _ _ _ _ _ _ _ _ _ _ _ _ _ _ _ _ _ _ _ _ _ _ _ _ _ _ _ _ _ _ _ _ _ _ _ _ _ _ _ _ _ _ _ _ _ _ _ _ _ _ _ _ _ _ _ _ _ _ _ _ _ _ _ _ _ _ _ _ _ _ _ _ _ _ _ _ _ _ _ _ _ _ _ _ _ _ _ _ _ _ _ _ _ _ _ _ _ _ _ _ _ _ _ _ _ _ _ _ _ _ _ _ _ _ _ _ _ _ _ _ _ _ _ _ _ _ _ _ _ _ _ _ _ _ _ _ _ _ _ _ _ _ _ _ _ _ _ _ _ _ _ _ _ _ _ _ _ _ _ _ _ _ _ _ _ _ _ _ _ _ _ _ _ _ _ _ _ _ _ _ _ _ _ _ _ _ _ _ _ _ _ _ _ _ _ _ _ _ _ _ _ _ _ _ _ _ _ _ _ _ _ _ _ _ _ _ _ _ _ _ _ _ _ _ _ _ _ _ _ _ _ _ _ _ _ _ _ _ _ _ _ _ _ _ _ _ _ _ _ _ _ _ _ _ _ _ _ _ _ (show Hid (Blk (ws6.drewN n6) gk 61 (vw kc)) from HKB6) HC8 hk8 HSB HRL HRT HR0 HR6 HRS ?_
      intro z20 z21 z22 z23 z160 z161 z162 z163 z164 z165 z166 z167 z168 z169 z170 z171 z172 z173 z174 z175 z176 z177 z178 z179 z180 z181 z182 z183 z184 z185 z186 z187 z188 z189 z190 z191 z192 z193 z194 z195 z196 z197 z198 z199 z200 z201 z202 z203 z204 z205 z206 z207 z208 z209 z210 z211 z212 z213 z214 z215 z216 z217 z218 z219 z220 z221 z222 z223 z224 z225 n8
      go_wp2_with fail
      obtain ⟨Y, hY⟩ : ∃ Y, Y = (ws6.drewN n6).drewN n8 := ⟨_, rfl⟩
      replace e0 : Y.cell? ⟨g, 0, none⟩ = some (.int .u32 (H.getD 0 0 : Nat)) := by rw [hY]; exact e0
      replace e1 : Y.cell? ⟨g, 1, none⟩ = some (.int .u32 (H.getD 1 0 : Nat)) := by rw [hY]; exact e1
      replace e2 : Y.cell? ⟨g, 2, none⟩ = some (.int .u32 (H.getD 2 0 : Nat)) := by rw [hY]; exact e2
      replace e3 : Y.cell? ⟨g, 3, none⟩ = some (.int .u32 (H.getD 3 0 : Nat)) := by rw [hY]; exact e3
      replace e4 : Y.cell? ⟨g, 4, none⟩ = some (.int .u32 (H.getD 4 0 : Nat)) := by rw [hY]; exact e4
      replace e5 : Y.cell? ⟨g, 5, none⟩ = some (.int .u32 (H.getD 5 0 : Nat)) := by rw [hY]; exact e5
      replace e6 : Y.cell? ⟨g, 6, none⟩ = some (.int .u32 (H.getD 6 0 : Nat)) := by rw [hY]; exact e6
      replace e7 : Y.cell? ⟨g, 7, none⟩ = some (.int .u32 (H.getD 7 0 : Nat)) := by rw [hY]; exact e7
      have HBY := Lib.hid (show Below wr.heap.size wr Y by rw [hY]; exact belowDrewN n8 (belowDrewN n6 HB6.out))
      rw [← hY]
      clear hY
      have HBK2 : Hid (F (j + 1) = [ad (H.getD 0 0) (L.getD 0 0), ad (H.getD 1 0) (L.getD 1 0), ad (H.getD 2 0) (L.getD 2 0), ad (H.getD 3 0) (L.getD 3 0), ad (H.getD 4 0) (L.getD 4 0), ad (H.getD 5 0) (L.getD 5 0), ad (H.getD 6 0) (L.getD 6 0), ad (H.getD 7 0) (L.getD 7 0)]) := HBK
      clear HBK HC8 HSB HRL HRT HR0 HR6 HRS HKB6 HHG6 HFL HFB HFJ HCP HPW
      have a0 := wrap32_add (H.getD 0 0) (L.getD 0 0)
      have a1 := wrap32_add (H.getD 1 0) (L.getD 1 0)
      have a2 := wrap32_add (H.getD 2 0) (L.getD 2 0)
      have a3 := wrap32_add (H.getD 3 0) (L.getD 3 0)
      have a4 := wrap32_add (H.getD 4 0) (L.getD 4 0)
      have a5 := wrap32_add (H.getD 5 0) (L.getD 5 0)
      have a6 := wrap32_add (H.getD 6 0) (L.getD 6 0)
      have a7 := wrap32_add (H.getD 7 0) (L.getD 7 0)
      generalize ad (H.getD 0 0) (L.getD 0 0) = q0 at *
      generalize H.getD 0 0 = h0 at *
      generalize L.getD 0 0 = l0 at *
      generalize ad (H.getD 1 0) (L.getD 1 0) = q1 at *
      generalize H.getD 1 0 = h1 at *
      generalize L.getD 1 0 = l1 at *
      generalize ad (H.getD 2 0) (L.getD 2 0) = q2 at *
      generalize H.getD 2 0 = h2 at *
      generalize L.getD 2 0 = l2 at *
      generalize ad (H.getD 3 0) (L.getD 3 0) = q3 at *
      generalize H.getD 3 0 = h3 at *
      generalize L.getD 3 0 = l3 at *
      generalize ad (H.getD 4 0) (L.getD 4 0) = q4 at *
      generalize H.getD 4 0 = h4 at *
      generalize L.getD 4 0 = l4 at *
      generalize ad (H.getD 5 0) (L.getD 5 0) = q5 at *
      generalize H.getD 5 0 = h5 at *
      generalize L.getD 5 0 = l5 at *
      generalize ad (H.getD 6 0) (L.getD 6 0) = q6 at *
      generalize H.getD 6 0 = h6 at *
      generalize L.getD 6 0 = l6 at *
      generalize ad (H.getD 7 0) (L.getD 7 0) = q7 at *
      generalize H.getD 7 0 = h7 at *
      generalize L.getD 7 0 = l7 at *
      refine wp_region_still_tail 40 (by kernel_rfl) (by kernel_rfl) ?_
      simp only [List.take_succ_cons, List.take_zero, List.drop_succ_cons, List.drop_zero]
      repeat still_step
      try refine wpStill_nil ?_
      change wpList _ _ _ _ _ Y.drew
      go_wp2_with fail
      have hbn : Blk ((Y.alloc (Obj.cells (vw [q0, q1, q2, q3, q4, q5, q6, q7]) 61)).drew) Y.heap.size 61 (vw [q0, q1, q2, q3, q4, q5, q6, q7]) := Blk.new Y _ _
      have hbe : Below wr.heap.size wr ((Y.alloc (Obj.cells (vw [q0, q1, q2, q3, q4, q5, q6, q7]) 61)).drew) := (HBY.out.alloc HBY.out.size _).drew
      refine ⟨⟨j + 1, by omega, HT6.out, by congr 1 <;> omega, ⟨Y.heap.size, rfl, ?_⟩, HBQ.out.trans (hbe.mono HBQ.out.size)⟩, ?_⟩
      · rw [HBK2.out]
        exact hbn
      · simp only [intOf]; omega
    · obtain rfl : j = nb := by omega
      go_wp2_with fail
      exact hexit _ _ _ _ _ _ _ _ _ _ _ _ _ _ _ _ _ _ _ _ _ _ _ _ _ _ _ _ _ _ _ _ _ _ _ _ _ _ _ _ _ _ _ _ _ _ _ _ _ _ _ _ _ _ _ _ _ _ _ _ _ _ _ _ _ _ _ _ _ _ _ _ _ _ _ _ _ _ _ _ _ _ _ _ _ _ _ _ _ _ _ _ _ _ _ _ _ _ _ _ _ _ _ _ _ _ _ _ _ _ _ _ _ _ _ _ _ _ _ _ _ _ _ _ _ _ _ _ _ _ _ _ _ _ _ _ _ _ _ _ _ _ _ _ _ _ _ _ _ _ _ _ _ _ _ _ _ _ _ _ _ _ _ _ _ _ _ _ _ _ _ _ _ _ _ _ _ _ _ _ _ _ _ _ _ _ _ _ _ _ _ _ _ _ _ _ _ _ _ _ _ _ _ _ _ _ _ _ _ _ _ _ _ _ _ _ _ _ _ _ _ _ _ _ _ _ _ _ _ _ _ _ _ _ _ _ _ _ _ HHG.out HBQ.out
end Go.Proofs.YtbgnjjbmidkhlaaDoor
