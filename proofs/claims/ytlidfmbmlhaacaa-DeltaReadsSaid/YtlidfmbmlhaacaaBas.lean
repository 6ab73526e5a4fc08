/- Common: forms of numbers, rows of bytes. -/
import Derived.Test.YtlidfmbmlhaacaaByt1
import Derived.Test.YtlidfmbmlhaacaaEq
import Derived.Test.YtlidfmbmlhaacaaOnly
import Derived.Great.BuildSlice
import Derived.Deep.MidRow
import Derived.Laws.Cover3
import Derived.StillTailTactics
namespace Go.Proofs.Ytlidfmbmlhaacaa
open Go.RowKit
set_option linter.unusedVariables false
set_option linter.unusedSimpArgs false
theorem cell_lt {w : World} {a : Addr} {v : Value} (h : w.cell? a = some v) : a.block < w.heap.size := by
  rcases Nat.lt_or_ge a.block w.heap.size with h1 | h1
  · exact h1
  · simp [World.cell?, Array.getElem?_eq_none h1] at h
theorem Rd.ext {w w' : World} {B : Nat} {A : Option Addr} {xs : List Value} (h : Rd w B A xs) (hb : Below w.heap.size w w') : Rd w' B A xs := fun hn => by
  obtain ⟨ad, e, hab, hc⟩ := h hn
  exact ⟨ad, e, hab, fun j u hu => (hb.cell (cell_lt (hc j u hu))).trans (hc j u hu)⟩
theorem Rd.none_nil {w : World} {B : Nat} {xs : List Value} (h : Rd w B none xs) : xs = [] := by
  by_cases hn : xs = []
  · exact hn
  · obtain ⟨_, e, _⟩ := h hn; cases e
/-- what a call hands back: bytes of its own -/
def Gives (l : List Nat) (w : World) (e : Ending) (w' : World) : Prop := ∃ v, e = .returned v ∧ OwnB w' w.heap.size v l ∧ Below w.heap.size w w'
/-- a number's bytes, the lowest first -/
def form : Nat → Nat → List Nat
  | _, 0 => []
  | n, w + 1 => n % 256 :: form (n / 256) w
theorem form_len (n w : Nat) : (form n w).length = w := by
  induction w generalizing n with
  | zero => rfl
  | succ w ih => simp [form, ih]
theorem form_lt (n w : Nat) : ∀ c ∈ form n w, c < 256 := by
  induction w generalizing n with
  | zero => simp [form]
  | succ w ih =>
    intro c hc
    rcases List.mem_cons.1 hc with rfl | hc
    · exact Nat.mod_lt _ (by decide)
    · exact ih _ c hc
theorem form_succ (n w : Nat) : form n (w + 1) = form n w ++ [n / 256 ^ w % 256] := by
  induction w generalizing n with
  | zero => simp [form]
  | succ w ih =>
    rw [form, ih (n / 256), form, List.cons_append, Nat.div_div_eq_div_mul, Nat.pow_succ']
def number : List Nat → Nat
  | [] => 0
  | c :: l => number l * 256 + c
theorem number_lt : ∀ l : List Nat, (∀ c ∈ l, c < 256) → number l < 256 ^ l.length
  | [], _ => by simp [number]
  | c :: l, h => by
    have h1 := number_lt l (fun c hc => h c (by simp [hc]))
    have h2 := h c (by simp)
    rw [number, List.length_cons, Nat.pow_succ]
    omega
theorem form_number : ∀ l : List Nat, (∀ c ∈ l, c < 256) → form (number l) l.length = l
  | [], _ => rfl
  | c :: l, h => by
    have h2 := h c (by simp)
    rw [List.length_cons, form, number, show (number l * 256 + c) % 256 = c by omega, show (number l * 256 + c) / 256 = number l by omega, form_number l (fun c hc => h c (by simp [hc]))]
theorem number_form (n w : Nat) (h : n < 256 ^ w) : number (form n w) = n := by
  induction w generalizing n with
  | zero => simp at h; subst h; rfl
  | succ w ih =>
    rw [form, number, ih (n / 256) (by rw [Nat.pow_succ] at h; omega)]
    omega
theorem number_drop {l : List Nat} {j : Nat} (hj : j < l.length) : number (l.drop j) = number (l.drop (j + 1)) * 256 + l.getD j 0 := by
  rw [List.drop_eq_getElem_cons hj, List.getD_eq_getElem?_getD, List.getElem?_eq_getElem hj]; rfl
theorem OwnB.open_ {w : World} {base : Nat} {v : Value} {l : List Nat} (h : OwnB w base v l) (hne : l ≠ []) : ∃ g cap rest, v = .slice (some ⟨g, 0, none⟩) l.length cap ∧ base ≤ g ∧ Blk w g 5 (byt l ++ rest).toArray ∧ l.length ≤ cap ∧ cap ≤ maxLen ∧ rest.length + l.length = cap := by
  rcases h.2 with ⟨_, h0⟩ | ⟨g, cap, cur, rfl, hb, hh, hn, hm, hc, ht⟩
  · exact absurd (List.eq_nil_of_length_eq_zero h0) hne
  · refine ⟨g, cap, cur.toList.drop l.length, rfl, hb, ?_, hn, hm, ?_⟩
    · rw [Nat.mul_one] at ht
      unfold Blk
      rw [hh, ← ht, List.take_append_drop]
    · rw [List.length_drop, Array.length_toList, hc]; omega
theorem OwnB.next {w w' : World} {base : Nat} {v : Value} {l : List Nat} (h : OwnB w base v l) (hb : Below w.heap.size w w') : OwnB w' base v l := own_keep (S := fun _ => False) h (Only.of_below hb) (fun _ _ h => h)
theorem vb_at (l : List Nat) (i : Nat) (h : i < l.length) : (vb l)[i]? = some (.int .u8 (l.getD i 0 : Nat)) := by
  simp [vb, byt, List.getD_eq_getElem?_getD, h]
theorem vb_one (l : List Nat) : (vb l).all (·.oneCell') = true := by
  simp [vb, byt, Value.oneCell']
theorem own_base_le {w : World} {base base' : Nat} {e : TypeId} {size n : Nat} {v : Value} {xs : List Value} (h : w.ownsRow base e size v n xs) (hb : base' ≤ base) : w.ownsRow base' e size v n xs :=
  ⟨h.1, h.2.elim Or.inl (fun ⟨g, cap, cur, hv, hg, r⟩ => Or.inr ⟨g, cap, cur, hv, Nat.le_trans hb hg, r⟩)⟩
theorem run_one (w : World) (c : Nat) {o : Oper} {a : Act} (x : Operand) (ho : o.op = .buildSlice 32 1 #[(0, x)]) (hx : a.eval x = .int .u8 (c : Nat)) :
    (execOp a.eval o).run Try.prog w = .ok (.value (.slice (some ⟨w.heap.size, 0, none⟩) 1 1)) (w.alloc (.cells (byt [c]).toArray 5)) := by
  obtain ⟨i0, hi, hz0, hz1, hz2⟩ := info_parts byteInfo
  have e1 : (#[(0, x)].map fun (p : Nat × Operand) => (p.1, a.eval p.2)).toList = (([Value.int .u8 (c : Nat)].zipIdx 0).map fun x => (x.2, x.1)) := by
    simp [hx]
  have h1 := run_buildSlice (P := Try.prog) w 32 5 1 (#[(0, x)].map fun (p : Nat × Operand) => (p.1, a.eval p.2)) (byt [c]).toArray i0 _ Try.underlying32 hi hz0 (by rw [hz1]; decide) (by rw [hz1]; decide) (by
    rw [hz1]
    refine (congrArg _ e1).trans ?_
    exact (Great.fill_flat [Value.int .u8 (c : Nat)] _ (fun v hv => by rw [List.mem_singleton.1 hv]; rfl) (by simp)))
  unfold execOp
  simp only [ho, Sem.run_bind, h1, Result.andThen_ok]
  rfl
theorem range_of_rd {w : World} {B g : Nat} {l : List Nat} (h : Rd w B (some ⟨g, 0, none⟩) (byt l)) (hne : l ≠ []) : w.rangeAt g 0 (byt l) := by
  obtain ⟨ad, e, hb, hc⟩ := h (by intro h0; have := congrArg List.length h0; rw [byt_len] at this; exact hne (List.eq_nil_of_length_eq_zero this))
  injection e with e
  subst e
  intro j u hu
  have := hc j u hu
  rwa [Addr.add_mid] at this
theorem below_row {n g : Nat} {w W : World} (h : Below n w W) (hn : n ≤ g) (cs : Array Value) : Below n w (W.setRow g cs) :=
  h.trans ⟨rfl, rfl, rfl, by simp [World.setRow], fun i hi => setRow_other _ _ i _ (by omega)⟩
theorem rangeAt_blk {w : World} {g : Nat} {T : TypeId} {cs : Array Value} (h : Blk w g T cs) : w.rangeAt g 0 cs.toList := fun i u hu => by
  rw [Nat.zero_add, h.cell i]
  simpa using hu
end Go.Proofs.Ytlidfmbmlhaacaa
