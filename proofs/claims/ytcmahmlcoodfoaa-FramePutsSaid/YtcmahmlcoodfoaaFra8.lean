/- The document's Get: the plain side. -/
import Derived.Test.YtcmahmlcoodfoaaFra6
namespace Go.Proofs.Ytcmahmlcoodfoaa
open Go.RowKit Go.Great
set_option linter.unusedVariables false
theorem form_numAt {l : List Nat} (h : ∀ c ∈ l, c < 256) (a n : Nat) (hf : a + n ≤ l.length) : form (numAt l a n) n = (l.drop a).take n := by
  have h1 := form_number ((l.drop a).take n) (take_lt (drop_lt h a) n)
  rw [show ((l.drop a).take n).length = n by rw [List.length_take, List.length_drop]; omega] at h1
  exact h1
theorem take_more (l : List Nat) (a n : Nat) : l.take a ++ (l.drop a).take n = l.take (a + n) := by rw [List.take_add]
theorem head13 {l : List Nat} (h : ∀ c ∈ l, c < 256) (hl : 13 ≤ l.length) : [l.getD 0 0] ++ form (numAt l 1 2) 2 ++ form (numAt l 3 2) 2 ++ form (numAt l 5 8) 8 = l.take 13 := by
  rw [form_numAt h 1 2 (by omega), form_numAt h 3 2 (by omega), form_numAt h 5 8 (by omega)]
  have h1 : [l.getD 0 0] = l.take 1 := by
    cases l with
    | nil => simp at hl
    | cons a l => simp
  rw [h1, take_more, take_more, take_more]
theorem hdF_fr0 {l : List Nat} (h : ∀ c ∈ l, c < 256) (hl : 13 ≤ l.length) : hdF (fr0 l) = l.take 13 := head13 h hl
theorem form_frH {l : List Nat} (h : ∀ c ∈ l, c < 256) (hl : 61 ≤ l.length) (hk : l.getD 0 0 = 72) : formF (frH l) = l.take 61 := by
  have h1 : hdF (frH l) = l.take 13 := head13 h (by omega)
  unfold formF
  rw [if_pos (show (frH l).k = 72 from hk), h1]
  show l.take 13 ++ form (numAt l 13 8) 8 ++ form (numAt l 21 8) 8 ++ (l.drop 29).take 32 = _
  rw [form_numAt h 13 8 (by omega), form_numAt h 21 8 (by omega), take_more, take_more, take_more]
theorem form_frD {l : List Nat} (h : ∀ c ∈ l, c < 256) (hl : 25 ≤ l.length) (hk : l.getD 0 0 ≠ 72) : formF (frD l) = l := by
  have h1 : hdF (frD l) = l.take 13 := head13 h (by omega)
  unfold formF
  rw [if_neg (show ¬ (frD l).k = 72 from hk), h1]
  show l.take 13 ++ (l.drop 13).take 12 ++ l.drop 25 = _
  rw [take_more, List.take_append_drop]
theorem ck_fr0 {l : List Nat} (h1 : l.getD 0 0 ≠ 72) (h2 : l.getD 0 0 ≠ 68) : ckF (fr0 l) = false := by
  unfold ckF
  rw [if_neg (show ¬ (fr0 l).k = 72 from h1), show decide ((fr0 l).k = 68) = false from decide_eq_false h2]
  simp
/-- what a frame in work comes to -/
theorem get_end_H {l : List Nat} (h : ∀ c ∈ l, c < 256) (hl : 61 ≤ l.length) (hk : l.getD 0 0 = 72) : getF l = if ckF (frH l) && (formF (frH l) == l) then (frH l, 0) else (zFr, 4) := by
  have e : (formF (frH l) == l) = decide (l.length = 61) := by
    rw [form_frH h hl hk, Bool.eq_iff_iff, beq_iff_eq, decide_eq_true_eq]
    constructor
    · intro e; have := congrArg List.length e; rw [List.length_take] at this; omega
    · intro e; exact List.take_of_length_le (by omega)
  unfold getF
  rw [if_neg (by omega), if_neg (by omega)]
  by_cases h61 : l.length = 61
  · rw [if_pos ⟨hk, h61⟩, e, decide_eq_true h61, Bool.and_true]
  · rw [if_neg (by omega), if_neg (by omega), e, decide_eq_false h61, Bool.and_false]; rfl
theorem get_end_D {l : List Nat} (h : ∀ c ∈ l, c < 256) (hl : 41 ≤ l.length) (hk : l.getD 0 0 = 68) : getF l = if ckF (frD l) && (formF (frD l) == l) then (frD l, 0) else (zFr, 4) := by
  rw [form_frD h (by omega) (by omega), beq_self_eq_true, Bool.and_true]
  unfold getF
  rw [if_neg (by omega), if_neg (by omega), if_neg (by omega), if_pos hk]
theorem get_end_0 {l : List Nat} (hl : 13 ≤ l.length) (h1 : l.getD 0 0 ≠ 72) (h2 : l.getD 0 0 ≠ 68) : getF l = if ckF (fr0 l) && (formF (fr0 l) == l) then (fr0 l, 0) else (zFr, 4) := by
  rw [ck_fr0 h1 h2, Bool.false_and]
  unfold getF
  rw [if_neg (by omega), if_neg (by omega), if_neg (by omega), if_neg h2]; rfl
/-! a list written from the left -/
def pTo (s z : List Nat) (k : Nat) : List Nat := s.take k ++ z.drop k
theorem pTo_len (s z : List Nat) (k : Nat) (h1 : k ≤ s.length) (h2 : s.length = z.length) : (pTo s z k).length = z.length := by simp [pTo]; omega
theorem pTo_set (s z : List Nat) (k : Nat) (h1 : k < s.length) (h2 : s.length = z.length) : (pTo s z k).set k (s.getD k 0) = pTo s z (k + 1) := by
  apply List.ext_getElem?
  intro i
  unfold pTo
  rw [List.getElem?_set]
  simp only [List.length_append, List.length_take, List.length_drop]
  by_cases h : k = i
  · subst h
    rw [if_pos rfl, if_pos (by omega), List.getElem?_append_left (by rw [List.length_take]; omega), List.getElem?_take_of_lt (by omega), List.getD_eq_getElem?_getD, List.getElem?_eq_getElem h1]
    rfl
  · rw [if_neg h]
    by_cases h3 : i < k
    · rw [List.getElem?_append_left (by rw [List.length_take]; omega), List.getElem?_append_left (by rw [List.length_take]; omega), List.getElem?_take_of_lt h3, List.getElem?_take_of_lt (by omega)]
    · rw [List.getElem?_append_right (by rw [List.length_take]; omega), List.getElem?_append_right (by rw [List.length_take]; omega), List.getElem?_drop, List.getElem?_drop, List.length_take, List.length_take]
      congr 1; omega
theorem pTo_end (s z : List Nat) (k : Nat) (h1 : s.length = k) (h2 : z.length = k) : pTo s z k = s := by
  unfold pTo
  rw [List.take_of_length_le (by omega), List.drop_of_length_le (by omega), List.append_nil]
theorem frV_setp {x : Fr} (v : Value) (k c : Nat) (hk : k < x.p.length) : (frV x v).setIfInBounds (6 + k) (.int .u8 (c : Nat)) = frV { x with p := x.p.set k c } v := by
  unfold frV frL
  rw [List.setIfInBounds_toArray]
  congr 1
  rw [List.set_append_right _ _ (by simp), List.set_append_left _ _ (by simp [byt_len]; omega)]
  simp [byt, List.map_set]
theorem frV_setn {x : Fr} (hx : x.p.length = 32) (v : Value) (k c : Nat) (hk : k < x.n.length) : (frV x v).setIfInBounds (38 + k) (.int .u8 (c : Nat)) = frV { x with n := x.n.set k c } v := by
  unfold frV frL
  rw [List.setIfInBounds_toArray]
  congr 1
  rw [List.set_append_right _ _ (by simp; omega), List.set_append_right _ _ (by simp [byt_len, hx]; omega), List.set_append_left _ _ (by simp [byt_len, hx]; omega)]
  have e : 38 + k - 6 - 32 = k := by omega
  simp [byt, List.map_set, hx, e]
theorem getD_dt (l : List Nat) (a n k : Nat) (h : k < n) : ((l.drop a).take n).getD k 0 = l.getD (a + k) 0 := by
  rw [List.getD_eq_getElem?_getD, List.getElem?_take_of_lt h, List.getElem?_drop, List.getD_eq_getElem?_getD]
theorem pTo_lt {s z : List Nat} (h1 : ∀ c ∈ s, c < 256) (h2 : ∀ c ∈ z, c < 256) (k : Nat) : ∀ c ∈ pTo s z k, c < 256 := fun c hc => by
  rcases List.mem_append.1 hc with h | h
  · exact take_lt h1 _ c h
  · exact drop_lt h2 _ c h
/-- the first k bytes of the proof copied -/
def frHk (l : List Nat) (k : Nat) : Fr := { frH l with p := pTo ((l.drop 29).take 32) z32 k }
def frDk (l : List Nat) (k : Nat) : Fr := { fr0 l with n := pTo ((l.drop 13).take 12) z12 k }
theorem dt_len (l : List Nat) (a n : Nat) (h : a + n ≤ l.length) : ((l.drop a).take n).length = n := by rw [List.length_take, List.length_drop]; omega
theorem frHk_ok {l : List Nat} (h : ∀ c ∈ l, c < 256) (hl : 61 ≤ l.length) (k : Nat) (hk : k ≤ 32) : FrOk (frHk l k) :=
  have g := frH_ok h hl
  ⟨g.k, g.f, g.t, g.i, g.b, g.o, (pTo_len _ _ k (by rw [dt_len l 29 32 (by omega)]; exact hk) ((dt_len l 29 32 (by omega)).trans z32_len.symm)).trans z32_len, g.n, pTo_lt (take_lt (drop_lt h _) _) z32_lt k, g.ns, g.ds⟩
theorem frDk_ok {l : List Nat} (h : ∀ c ∈ l, c < 256) (hl : 25 ≤ l.length) (k : Nat) (hk : k ≤ 12) : FrOk (frDk l k) :=
  have g := fr0_ok h
  ⟨g.k, g.f, g.t, g.i, g.b, g.o, g.p, (pTo_len _ _ k (by rw [dt_len l 13 12 (by omega)]; exact hk) ((dt_len l 13 12 (by omega)).trans z12_len.symm)).trans z12_len, g.ps, pTo_lt (take_lt (drop_lt h _) _) z12_lt k, g.ds⟩
theorem frHk_set {l : List Nat} (hl : 61 ≤ l.length) (v : Value) (k : Nat) (hk : k < 32) : (frV (frHk l k) v).setIfInBounds (6 + k) (.int .u8 (l.getD (29 + k) 0 : Nat)) = frV (frHk l (k + 1)) v := by
  have h1 := pTo_set ((l.drop 29).take 32) z32 k (by rw [dt_len l 29 32 (by omega)]; exact hk) ((dt_len l 29 32 (by omega)).trans z32_len.symm)
  have h2 := pTo_len ((l.drop 29).take 32) z32 k (by rw [dt_len l 29 32 (by omega)]; omega) ((dt_len l 29 32 (by omega)).trans z32_len.symm)
  rw [frV_setp v k _ (show k < (frHk l k).p.length by unfold frHk; rw [show ({ frH l with p := pTo ((l.drop 29).take 32) z32 k } : Fr).p = pTo ((l.drop 29).take 32) z32 k from rfl, h2, z32_len]; exact hk), ← getD_dt l 29 32 k hk]
  unfold frHk
  rw [← h1]
theorem frDk_set {l : List Nat} (hl : 25 ≤ l.length) (v : Value) (k : Nat) (hk : k < 12) : (frV (frDk l k) v).setIfInBounds (38 + k) (.int .u8 (l.getD (13 + k) 0 : Nat)) = frV (frDk l (k + 1)) v := by
  have h1 := pTo_set ((l.drop 13).take 12) z12 k (by rw [dt_len l 13 12 (by omega)]; exact hk) ((dt_len l 13 12 (by omega)).trans z12_len.symm)
  have h2 := pTo_len ((l.drop 13).take 12) z12 k (by rw [dt_len l 13 12 (by omega)]; omega) ((dt_len l 13 12 (by omega)).trans z12_len.symm)
  rw [frV_setn (show (frDk l k).p.length = 32 from z32_len) v k _ (show k < (frDk l k).n.length by unfold frDk; rw [show ({ fr0 l with n := pTo ((l.drop 13).take 12) z12 k } : Fr).n = pTo ((l.drop 13).take 12) z12 k from rfl, h2, z12_len]; exact hk), ← getD_dt l 13 12 k hk]
  unfold frDk
  rw [← h1]
theorem frHk_end {l : List Nat} (hl : 61 ≤ l.length) : frHk l 32 = frH l := by
  unfold frHk
  rw [pTo_end _ _ 32 (dt_len l 29 32 (by omega)) z32_len]
  rfl
theorem frHk_zero (l : List Nat) : frHk l 0 = { fr0 l with b := numAt l 13 8, o := numAt l 21 8 } := rfl
theorem frDk_end {l : List Nat} (hl : 25 ≤ l.length) : frDk l 12 = { fr0 l with n := (l.drop 13).take 12 } := by
  unfold frDk
  rw [pTo_end _ _ 12 (dt_len l 13 12 (by omega)) z12_len]
theorem frDk_zero (l : List Nat) : frDk l 0 = fr0 l := rfl
end Go.Proofs.Ytcmahmlcoodfoaa
