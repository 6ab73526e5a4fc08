/- Contracts: Clone, the forms of numbers. -/
import Derived.Test.YthlmlmkabjppeaaDoorByt1
namespace Go.Proofs.YthlmlmkabjppeaaDoor
open Go.RowKit
theorem cell_lt {w : World} {a : Addr} {v : Value} (h : w.cell? a = some v) : a.block < w.heap.size := by
  rcases Nat.lt_or_ge a.block w.heap.size with h1 | h1
  · exact h1
  · simp [World.cell?, Array.getElem?_eq_none h1] at h
theorem Rd.ext {w w' : World} {B : Nat} {A : Option Addr} {xs : List Value} (h : Rd w B A xs) (hb : Below w.heap.size w w') : Rd w' B A xs := fun hn => by
  obtain ⟨ad, e, hab, hc⟩ := h hn
  exact ⟨ad, e, hab, fun j u hu => (hb.cell (cell_lt (hc j u hu))).trans (hc j u hu)⟩
theorem Rd.none_nil {w : World} {B : Nat} {xs : List Value} (h : Rd w B none xs) : xs = [] := by
  by_cases hn : xs = []
  · exact hn
  · obtain ⟨_, e, _⟩ := h hn; cases e
/-- what a call hands back: bytes of its own -/
def Gives (l : List Nat) (w : World) (e : Ending) (w' : World) : Prop := ∃ v, e = .returned v ∧ OwnB w' w.heap.size v l ∧ Below w.heap.size w w'
set_option maxRecDepth 100000 in
set_option maxHeartbeats 400000 in
theorem clone_c (B : Nat) (A : Option Addr) (ca : Nat) (l : List Nat) (w : World) (hr : Rd w B A (byt l)) (h1 : l.length ≤ 100000000) :
    Calls Tryd.prog 57 #[.slice A l.length ca] w (Gives l w) := by
  obtain ⟨i0, hi, hz0, hz1, hz2⟩ := info_parts byteInfo
  have HR := Lib.hid hr
  clear hr
  cases A with
  | none =>
    have hq := fun (W : World) (n c : Nat) => Lib.run_eql_slice_nil (P := Tryd.prog) W 22 5 none n c 0 0 Tryd.underlying22
    simp only [Option.isNone_none] at hq
    obtain rfl : l = [] := by have := HR.out.none_nil; simpa [byt] using this
    go_enter Tryd.func57, Tryd.ntmps57
    go_wp2
    go_ret
    exact ⟨_, rfl, OwnB.nil_ _ _, Below.refl _ _⟩
  | some ad =>
    have hq := fun (W : World) (n c : Nat) => Lib.run_eql_slice_nil (P := Tryd.prog) W 22 5 (some ad) n c 0 0 Tryd.underlying22
    simp only [Option.isNone_some] at hq
    go_enter Tryd.func57, Tryd.ntmps57
    go_wp2_with (at_builtin; refine wpList_app _ rfl (.tmp 5) (.tmp 6) _ rfl w.heap.size 5 i0 (.int .u8 0) 1 1 Tryd.underlying22 hi hz0 hz1 hz2 rfl (by decide) _ 0 [] rfl (by exact OwnB.new _ _ [] (Nat.le_refl _) (by simp [maxLen])) B (some ad) l.length ca (byt l) rfl (by simp [byt_len]) (HR.out.ext ((Below.refl _ _).alloc (Nat.le_refl _) _)) (byt_one l) (by omega) (by omega) (by simp) ?_; intro v1 w1 hap)
    go_ret
    refine ⟨v1, rfl, ?_, ((Below.refl _ _).alloc (Nat.le_refl _) _).trans (hap.below (by exact OwnB.new _ _ [] (Nat.le_refl _) (by simp [maxLen])) (by simp))⟩
    have := hap.own
    simpa [OwnB] using this
/-- a number's bytes, the lowest first -/
def form : Nat → Nat → List Nat
  | _, 0 => []
  | n, w + 1 => n % 256 :: form (n / 256) w
theorem form_len (n w : Nat) : (form n w).length = w := by
  induction w generalizing n with
  | zero => rfl
  | succ w ih => simp [form, ih]
theorem form_lt (n w : Nat) : ∀ c ∈ form n w, c < 256 := by
  induction w generalizing n with
  | zero => simp [form]
  | succ w ih =>
    intro c hc
    rcases List.mem_cons.1 hc with rfl | hc
    · exact Nat.mod_lt _ (by decide)
    · exact ih _ c hc
theorem form_succ (n w : Nat) : form n (w + 1) = form n w ++ [n / 256 ^ w % 256] := by
  induction w generalizing n with
  | zero => simp [form]
  | succ w ih =>
    rw [form, ih (n / 256), form, List.cons_append, Nat.div_div_eq_div_mul, Nat.pow_succ']
def number : List Nat → Nat
  | [] => 0
  | c :: l => number l * 256 + c
theorem number_lt : ∀ l : List Nat, (∀ c ∈ l, c < 256) → number l < 256 ^ l.length
  | [], _ => by simp [number]
  | c :: l, h => by
    have h1 := number_lt l (fun c hc => h c (by simp [hc]))
    have h2 := h c (by simp)
    rw [number, List.length_cons, Nat.pow_succ]
    omega
theorem form_number : ∀ l : List Nat, (∀ c ∈ l, c < 256) → form (number l) l.length = l
  | [], _ => rfl
  | c :: l, h => by
    have h2 := h c (by simp)
    rw [List.length_cons, form, number, show (number l * 256 + c) % 256 = c by omega, show (number l * 256 + c) / 256 = number l by omega, form_number l (fun c hc => h c (by simp [hc]))]
theorem number_form (n w : Nat) (h : n < 256 ^ w) : number (form n w) = n := by
  induction w generalizing n with
  | zero => simp at h; subst h; rfl
  | succ w ih =>
    rw [form, number, ih (n / 256) (by rw [Nat.pow_succ] at h; omega)]
    omega
theorem number_drop {l : List Nat} {j : Nat} (hj : j < l.length) : number (l.drop j) = number (l.drop (j + 1)) * 256 + l.getD j 0 := by
  rw [List.drop_eq_getElem_cons hj, List.getD_eq_getElem?_getD, List.getElem?_eq_getElem hj]; rfl
end Go.Proofs.YthlmlmkabjppeaaDoor
