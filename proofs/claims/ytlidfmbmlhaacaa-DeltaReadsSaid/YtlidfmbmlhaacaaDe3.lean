/- Pieces: which may be laid, and how: plain. -/
import Derived.Test.YtlidfmbmlhaacaaDe2
namespace Go.Proofs.Ytlidfmbmlhaacaa
open Go.RowKit
set_option linter.unusedVariables false
set_option linter.unusedSimpArgs false
def pc0 : Pc := ⟨ByteArray.empty, 0, 0, 0, 0⟩
/-- what the heads of the series take -/
def hdL : Option ByteArray → List Pc → Nat
  | _, [] => 0
  | o, p :: l => (if o = some p.s then 0 else 6 + p.s.size) + hdL (some p.s) l
theorem hdL_same (s : ByteArray) : ∀ l : List Pc, hdL (some s) l = hdL none (l.drop (run1 s l))
  | [] => rfl
  | p :: l => by
    unfold run1
    split
    · rename_i he
      subst he
      rw [hdL, if_pos rfl, Nat.zero_add, List.drop_succ_cons]
      exact hdL_same p.s l
    · rename_i hne
      rw [List.drop_zero, hdL, hdL, if_neg (fun h => hne (Option.some.inj h).symm), if_neg (by intro h; cases h)]
theorem room_heads : ∀ l, roomG (grps l) = hdL none l := grps_ind (by rw [grps_nil]; rfl) fun p l ih => by
  rw [grps_cons, roomG, ih, hdL, if_neg (by intro h; cases h), hdL_same]
/-- the series that comes last -/
def lastS : Option ByteArray → List Pc → Option ByteArray
  | o, [] => o
  | _, p :: l => lastS (some p.s) l
theorem lastS_snoc (q : Pc) : ∀ (l : List Pc) (o : Option ByteArray), lastS o (l ++ [q]) = some q.s
  | [], o => rfl
  | p :: l, o => lastS_snoc q l (some p.s)
def hd1 (o : Option ByteArray) (q : Pc) : Nat := if o = some q.s then 0 else 6 + q.s.size
theorem hdL_snoc (q : Pc) : ∀ (l : List Pc) (o : Option ByteArray), hdL o (l ++ [q]) = hdL o l + hd1 (lastS o l) q
  | [], o => by unfold lastS hd1; rw [List.nil_append, hdL, hdL, hdL]; omega
  | p :: l, o => by rw [List.cons_append, hdL, hdL_snoc q l (some p.s), hdL, lastS]; omega
/-- what the first k pieces take -/
def roomTo (l : List Pc) (k : Nat) : Nat := 4 + 32 * k + hdL none (l.take k)
theorem roomTo_zero (l : List Pc) : roomTo l 0 = 4 := by simp [roomTo, hdL]
theorem roomTo_all (l : List Pc) : roomTo l l.length = roomL l := by unfold roomTo roomL; rw [List.take_length, room_heads]
theorem roomTo_succ (l : List Pc) (k : Nat) (h : k < l.length) : roomTo l (k + 1) = roomTo l k + (if k = 0 ∨ (l.getD k pc0).s ≠ (l.getD (k - 1) pc0).s then 6 + (l.getD k pc0).s.size else 0) + 32 := by
  unfold roomTo
  have e : l.take (k + 1) = l.take k ++ [l.getD k pc0] := by
    rw [List.take_succ_eq_append_getElem h]
    simp [List.getD_eq_getElem?_getD, h]
  rw [e, hdL_snoc]
  rcases Nat.eq_zero_or_pos k with h0 | h0
  · subst h0
    rw [List.take_zero]
    unfold lastS hd1
    rw [if_neg (by intro h; cases h), if_pos (.inl rfl)]
    omega
  · obtain ⟨j, rfl⟩ : ∃ j, k = j + 1 := ⟨k - 1, by omega⟩
    have e2 : l.take (j + 1) = l.take j ++ [l.getD j pc0] := by
      rw [List.take_succ_eq_append_getElem (by omega)]
      simp [List.getD_eq_getElem?_getD, show j < l.length by omega]
    have e3 : lastS none (l.take (j + 1)) = some (l.getD j pc0).s := by rw [e2, lastS_snoc]
    rw [e3, show j + 1 - 1 = j from rfl]
    unfold hd1
    by_cases hs : (l.getD j pc0).s = (l.getD (j + 1) pc0).s
    · rw [if_pos (by rw [hs]), if_neg (by rintro (h1 | h1); · omega
                                          · exact h1 hs.symm)]
      omega
    · rw [if_neg (fun h => hs (Option.some.inj h)), if_pos (.inr (fun h1 => hs h1.symm))]
      omega
theorem roomTo_mono (l : List Pc) (k : Nat) : ∀ d, k + d ≤ l.length → roomTo l k ≤ roomTo l (k + d) := by
  intro d
  induction d with
  | zero => intro _; exact Nat.le_refl _
  | succ d ih =>
    intro h
    have h1 := ih (by omega)
    have h2 := roomTo_succ l (k + d) (by omega)
    rw [← Nat.add_assoc, h2]
    omega
/-- texts in order -/
def ltS (a b : ByteArray) : Bool := Op.bytesLess a.toList b.toList
theorem bless_irr : ∀ l : List UInt8, Op.bytesLess l l = false
  | [] => rfl
  | a :: l => by rw [Op.bytesLess, bless_irr l]; simp
theorem bless_tri : ∀ l m : List UInt8, l ≠ m → Op.bytesLess l m = false → Op.bytesLess m l = true
  | [], [], h, _ => absurd rfl h
  | [], b :: m, _, h => by simp [Op.bytesLess] at h
  | a :: l, [], _, _ => rfl
  | a :: l, b :: m, hne, h => by
    rw [Op.bytesLess] at h ⊢
    simp only [Bool.or_eq_false_iff, Bool.and_eq_false_iff, Bool.or_eq_true, Bool.and_eq_true, decide_eq_false_iff_not, decide_eq_true_eq, beq_iff_eq, beq_eq_false_iff_ne] at h ⊢
    obtain ⟨h1, h2⟩ := h
    by_cases hab : a = b
    · subst hab
      right
      refine ⟨rfl, bless_tri l m (fun e => hne (by rw [e])) ?_⟩
      rcases h2 with h2 | h2
      · exact absurd rfl h2
      · exact h2
    · left
      rw [UInt8.lt_iff_toNat_lt] at h1 ⊢
      have : a.toNat ≠ b.toNat := fun e => hab (UInt8.toNat_inj.1 e)
      omega
theorem bless_asym : ∀ l m : List UInt8, Op.bytesLess l m = true → Op.bytesLess m l = false
  | [], [], h => by simp [Op.bytesLess] at h
  | [], b :: m, _ => rfl
  | a :: l, [], h => by simp [Op.bytesLess] at h
  | a :: l, b :: m, h => by
    rw [Op.bytesLess] at h ⊢
    simp only [Bool.or_eq_false_iff, Bool.and_eq_false_iff, Bool.or_eq_true, Bool.and_eq_true, decide_eq_false_iff_not, decide_eq_true_eq, beq_iff_eq, beq_eq_false_iff_ne] at h ⊢
    rcases h with h | ⟨h, h2⟩
    · rw [UInt8.lt_iff_toNat_lt] at h ⊢
      exact ⟨by omega, .inl (fun e => by subst e; omega)⟩
    · subst h
      exact ⟨by rw [UInt8.lt_iff_toNat_lt]; omega, .inr (bless_asym l m h2)⟩
theorem toList_inj {a b : ByteArray} (h : a.toList = b.toList) : a = b := by
  cases a with
  | mk x => cases b with
    | mk y => rw [ByteArray.toList_mk, ByteArray.toList_mk] at h; rw [Array.toList_inj.1 h]
/-- whether one stands before the other in a list -/
def okPair (a b : Pc) : Bool := ltS a.s b.s || (a.s.toList == b.s.toList && decide (a.t < b.t))
def ckP (p : Pc) : Bool := decide (1 ≤ p.s.size) && decide (p.s.size ≤ 200)
def okAt (l : List Pc) (i : Nat) : Bool := ckP (l.getD i pc0) && (decide (i = 0) || okPair (l.getD (i - 1) pc0) (l.getD i pc0))
def okTo (l : List Pc) (k : Nat) : Bool := (List.range k).all (okAt l)
theorem okTo_succ (l : List Pc) (k : Nat) : okTo l (k + 1) = (okTo l k && okAt l k) := by unfold okTo; rw [List.range_succ, List.all_append]; simp
theorem okTo_not (l : List Pc) (k n : Nat) (h : k < n) (hk : okAt l k = false) : okTo l n = false := by
  unfold okTo
  rw [List.all_eq_false]
  exact ⟨k, List.mem_range.2 h, by rw [hk]; decide⟩
def chkL (l : List Pc) : Nat := if 256 < l.length ∨ 4096 < roomL l then 3 else if okTo l l.length then 0 else 1
def layL (l : List Pc) : List Nat := form (formP l).length 2 ++ formP l ++ List.replicate (roomL l - (2 + (formP l).length)) 0
theorem okTo_at {l : List Pc} {k : Nat} (h : okTo l l.length = true) (hk : k < l.length) : okAt l k = true := by
  unfold okTo at h
  exact List.all_eq_true.1 h k (List.mem_range.2 hk)
/-- pieces that may be laid are so long -/
theorem chk_ok {l : List Pc} (h : chkL l = 0) : l.length ≤ 256 ∧ roomL l ≤ 4096 ∧ okTo l l.length = true := by
  unfold chkL at h
  split at h
  · cases h
  · rename_i h1
    split at h
    · rename_i h2; exact ⟨by omega, by omega, h2⟩
    · cases h
theorem chk_sizes {l : List Pc} (h : chkL l = 0) : ∀ p ∈ l, 1 ≤ p.s.size ∧ p.s.size ≤ 200 := fun p hp => by
  obtain ⟨k, hk, rfl⟩ := List.mem_iff_getElem.1 hp
  have h1 := okTo_at (chk_ok h).2.2 hk
  unfold okAt ckP at h1
  rw [List.getD_eq_getElem?_getD, List.getElem?_eq_getElem hk] at h1
  simp only [Option.getD_some, Bool.and_eq_true, decide_eq_true_eq] at h1
  exact h1.1
theorem layL_len {l : List Pc} (h : chkL l = 0) (hl : ∀ p ∈ l, PcOk p) : (layL l).length = roomL l := by
  have h1 := form_fits l (fun p hp => ⟨hl p hp, by have := (chk_sizes h p hp).2; omega⟩) (by have := (chk_ok h).1; omega)
  unfold layL
  simp only [List.length_append, form_len, List.length_replicate]
  omega
/-- what is read -/
def bodyL (b : List Nat) : List Nat := (b.drop 2).take (number (b.take 2))
def shortB (b : List Nat) : Bool := decide (b.length < 2) || decide (b.length < number (b.take 2) + 2)
def readB (b : List Nat) : List Pc × Bool := rgL (rdS (bodyL b) false).1 (rdS (bodyL b) false).2.1 (rdS (bodyL b) false).2.2 []
def readE (b : List Nat) : Nat := if shortB b then 2 else if (readB b).2 then 4 else if chkL (readB b).1 = 0 ∧ layL (readB b).1 = b then 0 else 4
def readL (b : List Nat) : List Pc := if readE b = 0 then (readB b).1 else []
theorem read_lay {l : List Pc} (h : chkL l = 0) (hl : ∀ p ∈ l, PcOk p) : readE (layL l) = 0 ∧ readL (layL l) = l := by
  have hs := chk_sizes h
  have hc := chk_ok h
  have h1 := form_fits l (fun p hp => ⟨hl p hp, by have := (hs p hp).2; omega⟩) (by omega)
  have e1 : (layL l).take 2 = form (formP l).length 2 := by
    unfold layL
    rw [List.append_assoc, List.take_append_of_le_length (by rw [form_len]; exact Nat.le_refl _), List.take_of_length_le (by rw [form_len]; exact Nat.le_refl _)]
  have e2 : number ((layL l).take 2) = (formP l).length := by
    rw [e1, number_form]
    have : (256 : Nat) ^ 2 = 65536 := by decide
    omega
  have e3 : bodyL (layL l) = formP l := by
    unfold bodyL
    rw [e2]
    unfold layL
    rw [List.append_assoc, List.drop_append_of_le_length (by rw [form_len]; exact Nat.le_refl _), List.drop_of_length_le (by rw [form_len]; exact Nat.le_refl _), List.nil_append, List.take_append_of_le_length (Nat.le_refl _), List.take_length]
  have e4 : readB (layL l) = (l, false) := by
    unfold readB
    rw [e3]
    exact read_form l (fun p hp => ⟨hl p hp, by have := (hs p hp).2; omega⟩) (by omega)
  have e5 : shortB (layL l) = false := by
    unfold shortB
    rw [e2, layL_len h hl]
    simp
    omega
  have e6 : readE (layL l) = 0 := by
    unfold readE
    rw [e5, e4]
    simp only [Bool.false_eq_true, if_false]
    rw [if_pos ⟨h, trivial⟩]
  exact ⟨e6, by unfold readL; rw [if_pos e6, e4]⟩
end Go.Proofs.Ytlidfmbmlhaacaa
