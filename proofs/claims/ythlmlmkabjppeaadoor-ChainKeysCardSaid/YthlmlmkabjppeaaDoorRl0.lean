/- Contract: the document's fingerprint: lemmas. -/
import Derived.Test.YthlmlmkabjppeaaDoorRsm1
import Derived.StillTailTactics
namespace Go.Proofs.YthlmlmkabjppeaaDoor
open Go.RowKit
set_option linter.unusedVariables false
set_option linter.unusedSimpArgs false
theorem wordInfo : (Tryd.prog.info? 69).map (fun i => (i.zero, i.size, i.bytes)) = some (some (.int .u32 0), 1, 4) := by kernel_rfl
theorem OwnB.open_ {w : World} {base : Nat} {v : Value} {l : List Nat} (h : OwnB w base v l) (hne : l ≠ []) : ∃ g cap rest, v = .slice (some ⟨g, 0, none⟩) l.length cap ∧ base ≤ g ∧ Blk w g 5 (byt l ++ rest).toArray ∧ l.length ≤ cap ∧ cap ≤ maxLen ∧ rest.length + l.length = cap := by
  rcases h.2 with ⟨_, h0⟩ | ⟨g, cap, cur, rfl, hb, hh, hn, hm, hc, ht⟩
  · exact absurd (List.eq_nil_of_length_eq_zero h0) hne
  · refine ⟨g, cap, cur.toList.drop l.length, rfl, hb, ?_, hn, hm, ?_⟩
    · rw [Nat.mul_one] at ht
      unfold Blk
      rw [hh, ← ht, List.take_append_drop]
    · rw [List.length_drop, Array.length_toList, hc]; omega
theorem OwnB.next {w w' : World} {base : Nat} {v : Value} {l : List Nat} (h : OwnB w base v l) (hb : Below w.heap.size w w') : OwnB w' base v l := own_keep (S := fun _ => False) h (Only.of_below hb) (fun _ _ h => h)
def OwnW (w : World) (base : Nat) (v : Value) (l : List Nat) : Prop := w.ownsRow base 69 1 v l.length (w32 l)
theorem OwnW.nil_ (w : World) (base : Nat) : OwnW w base (.slice none 0 0) [] := ⟨rfl, .inl ⟨rfl, rfl⟩⟩
theorem OwnW.rd {w : World} {base : Nat} {v : Value} {l : List Nat} (h : OwnW w base v l) : ∃ A cap, v = .slice A l.length cap ∧ l.length ≤ cap ∧ cap ≤ maxLen ∧ Rd w w.heap.size A (w32 l) := own_rd h
theorem OwnW.alloc {w : World} {base : Nat} {v : Value} {l : List Nat} (h : OwnW w base v l) (o : Obj) : OwnW (w.alloc o) base v l := World.ownsRow.alloc h o
theorem OwnW.drewN {w : World} {base : Nat} {v : Value} {l : List Nat} (h : OwnW w base v l) (n : Nat) : OwnW (w.drewN n) base v l := h
theorem OwnW.snoc {w w' : World} {base : Nat} {v v' : Value} {l : List Nat} {c : Nat} (h : Apped w base 69 1 v w' v' (l.length + 1) (w32 l ++ [.int .u32 (c : Int)])) : OwnW w' base v' (l ++ [c]) := by
  have := h.own
  simpa [OwnW, w32] using this
theorem w32_one (l : List Nat) : ∀ u ∈ w32 l, u.oneCell' = true := by
  intro u hu
  obtain ⟨n, _, rfl⟩ := List.mem_map.1 hu
  rfl
theorem w32_at {l : List Nat} {i : Nat} (h : i < l.length) : (w32 l)[i]? = some (.int .u32 (l.getD i 0 : Nat)) := by
  simp [w32, List.getD_eq_getElem?_getD, h]
theorem Rd.wordAt {w : World} {B : Nat} {A : Option Addr} {l : List Nat} (h : Rd w B A (w32 l)) (hn : 0 < l.length) :
    ∃ ad, A = some ad ∧ ad.block < B ∧ ∀ k, k < l.length → w.cell? (ad.add k) = some (.int .u32 (l.getD k 0 : Nat)) := by
  obtain ⟨ad, e, hb, hc⟩ := h (fun h0 => by have := w32_len l; rw [h0] at this; simp at this; omega)
  exact ⟨ad, e, hb, fun k hk => hc k _ (w32_at hk)⟩
theorem rd_oneW (w : World) (v : Value) : Rd (w.alloc (.cells #[v] 69)) (w.heap.size + 1) (some ⟨w.heap.size, 0, none⟩) [v] := rd_new w [v] _ (0, 0)
set_option maxRecDepth 100000 in
set_option maxHeartbeats 1000000 in
theorem rconst_c (w : World) : Calls Tryd.prog 42 #[] w fun e w' => e = .returned (.slice (some ⟨w.heap.size, 0, none⟩) 64 64) ∧ w' = w.alloc (.cells (vw kc) 69) := by
  go_enter Tryd.func42, Tryd.ntmps42
  go_wp2_with fail
  go_ret
  exact ⟨rfl, rfl⟩
theorem cells_of_blk {w : World} {g : Nat} {t : TypeId} {l : List Nat} {rest : List Value} (h : Blk w g t (byt l ++ rest).toArray) (i : Nat) (hi : i < l.length) : w.cell? ⟨g, i, none⟩ = some (.int .u8 (l.getD i 0 : Nat)) := by
  rw [h.cell, List.getElem?_toArray, List.getElem?_append_left (by rw [byt_len]; exact hi), byt_at hi]
theorem getD_four {L : List Nat} (h : L.length = 4) : L = [L.getD 0 0, L.getD 1 0, L.getD 2 0, L.getD 3 0] := by
  match L, h with
  | [a, b, c, d], _ => rfl
theorem num4_c (gp at0 i ca : Nat) (P CH : List Nat) (rest : List Value) (hi : i < 16) (hl : CH.length = 64) (hlt : ∀ c ∈ CH, c < 256) (hc : ∀ i, i < 64 → P.getD (at0 + i) 0 = CH.getD i 0) (hP : at0 + 64 ≤ P.length) (W : World) (hb : Blk W gp 5 (byt P ++ rest).toArray) :
    Calls Tryd.prog 43 #[.slice (some ⟨gp, at0 + 4 * i, none⟩) 4 ca] W fun e w' => e = .returned (.int .u64 (be4 CH i : Nat)) ∧ W = w' := by
  have h := hnumber_c (gp + 1) ⟨gp, at0 + 4 * i, none⟩ ca [CH.getD (4 * i) 0, CH.getD (4 * i + 1) 0, CH.getD (4 * i + 2) 0, CH.getD (4 * i + 3) 0] W (fun _ => ⟨_, rfl, Nat.lt_succ_self _, fun j u hu => by
    have hj : j < 4 := by
      rcases Nat.lt_or_ge j 4 with h1 | h1
      · exact h1
      · rw [List.getElem?_eq_none (by rw [byt_len]; exact h1)] at hu; cases hu
    rw [Addr.add_mid]
    rw [cells_of_blk hb (at0 + 4 * i + j) (by omega), show at0 + 4 * i + j = at0 + (4 * i + j) by omega, hc _ (by omega), ← hu]
    have hj3 : j = 0 ∨ j = 1 ∨ j = 2 ∨ j = 3 := by omega
    rcases hj3 with rfl | rfl | rfl | rfl <;> rfl⟩) (fun c hc => by
    simp only [List.mem_cons, List.not_mem_nil, or_false] at hc
    rcases hc with rfl | rfl | rfl | rfl <;> exact getD_lt hlt _) (by simp)
  have e : numB [CH.getD (4 * i) 0, CH.getD (4 * i + 1) 0, CH.getD (4 * i + 2) 0, CH.getD (4 * i + 3) 0] = be4 CH i := by
    show (((0 * 256 + CH.getD (4 * i) 0) * 256 + CH.getD (4 * i + 1) 0) * 256 + CH.getD (4 * i + 2) 0) * 256 + CH.getD (4 * i + 3) 0 = _
    rw [Nat.zero_mul, Nat.zero_add]
    rfl
  rw [e] at h
  exact h
def findL (n : Nat) : Code → Option Code
  | .seq a b => match findL n a with
    | some c => some c
    | none => findL n b
  | .loop a => findL n a
  | .block i a => if i == n then some a else findL n a
  | .scope a => findL n a
  | .cond _ a b => match findL n a with
    | some c => some c
    | none => findL n b
  | _ => none
noncomputable def lp (n : Nat) : Code := ((Tryd.f20.body.bind (findL n)).getD .skip)
theorem OwnW.next {w w' : World} {base : Nat} {v : Value} {l : List Nat} (h : OwnW w base v l) (hb : Below w.heap.size w w') : OwnW w' base v l := own_keep (S := fun _ => False) h (Only.of_below hb) (fun _ _ h => h)
theorem OwnW.new (w : World) (base : Nat) (l : List Nat) (hb : base ≤ w.heap.size) (hm : l.length ≤ maxLen) : OwnW (w.alloc (.cells (w32 l).toArray 69)) base (.slice (some ⟨w.heap.size, 0, none⟩) l.length l.length) l :=
  ⟨by simp [w32_len], .inr ⟨w.heap.size, l.length, _, rfl, hb, heapNew _ _, Nat.le_refl _, hm, by simp [w32_len], List.take_of_length_le (by simp [w32_len])⟩⟩
theorem run_oneW (w : World) (c : Nat) {o : Oper} {a : Act} (x : Operand) (ho : o.op = .buildSlice 70 1 #[(0, x)]) (hx : a.eval x = .int .u32 (c : Nat)) :
    (execOp a.eval o).run Tryd.prog w = .ok (.value (.slice (some ⟨w.heap.size, 0, none⟩) 1 1)) (w.alloc (.cells (w32 [c]).toArray 69)) := by
  obtain ⟨i0, hi, hz0, hz1, hz2⟩ := info_parts wordInfo
  have e1 : (#[(0, x)].map fun (p : Nat × Operand) => (p.1, a.eval p.2)).toList = (([Value.int .u32 (c : Nat)].zipIdx 0).map fun x => (x.2, x.1)) := by
    simp [hx]
  have h1 := run_buildSlice (P := Tryd.prog) w 70 69 1 (#[(0, x)].map fun (p : Nat × Operand) => (p.1, a.eval p.2)) (w32 [c]).toArray i0 _ Tryd.underlying70 hi hz0 (by rw [hz1]; decide) (by rw [hz1]; decide) (by
    rw [hz1]
    refine (congrArg _ e1).trans ?_
    exact (Great.fill_flat [Value.int .u32 (c : Nat)] _ (fun v hv => by rw [List.mem_singleton.1 hv]; rfl) (by simp)))
  unfold execOp
  simp only [ho, Sem.run_bind, h1, Result.andThen_ok]
  rfl
theorem cell_ext {Z : World} {a : Addr} {v : Value} (h : Z.cell? a = some v) : ∀ x : Ext Z, x.wd.cell? a = some v := fun x => x.cell h
theorem info_word : ∃ i4, Tryd.prog.info? 69 = some i4 ∧ i4.zero = some (.int .u32 0) ∧ i4.size = 1 ∧ i4.bytes = 4 := info_parts wordInfo
end Go.Proofs.YthlmlmkabjppeaaDoor
