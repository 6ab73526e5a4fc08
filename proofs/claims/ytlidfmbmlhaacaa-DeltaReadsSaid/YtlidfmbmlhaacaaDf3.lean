/- Rows of pieces that are read; contracts: whether a piece may be, whether there are too many. -/
import Derived.Test.YtlidfmbmlhaacaaDf2
import Derived.DataElems
namespace Go.Proofs.Ytlidfmbmlhaacaa
open Go.RowKit
set_option linter.unusedVariables false
set_option linter.unusedSimpArgs false
/-- cells from an address on -/
def AtA (w : World) (a : Addr) (cs : List Value) : Prop := ∀ j v, cs[j]? = some v → w.cell? (a.add j) = some v
theorem AtA.drop {w : World} {a : Addr} {cs : List Value} (h : AtA w a cs) (k n : Nat) : AtA w (a.add k) ((cs.drop k).take n) := fun j v hv => by
  rw [Addr.add_add]
  have hj : j < n := by
    rcases Nat.lt_or_ge j n with h1 | h1
    · exact h1
    · rw [List.getElem?_eq_none (by rw [List.length_take]; omega)] at hv; cases hv
  rw [List.getElem?_take_of_lt hj, List.getElem?_drop] at hv
  exact h (k + j) v hv
theorem AtA.below {w w' : World} {a : Addr} {cs : List Value} {B : Nat} (h : AtA w a cs) (hb : Below B w w') (ha : a.block < B) : AtA w' a cs := fun j v hv =>
  (hb.cell (by rw [add_block]; exact ha)).trans (h j v hv)
section
variable {P : Program}
theorem run_loadVar_at (w : World) (a : Addr) (ty : TypeId) (cs : List Value) (d : TypeDesc) (hc : AtA w a cs)
    (hu : P.underlying ty = some d) (hd : d.isRow = true) (hi : (P.info? ty).map (·.size) = some cs.length) :
    (loadVar ty a).run P w = .ok (.agg cs.toArray) w := by
  have hl : (loadCells a cs.length).run P w = .ok cs.toArray w := run_loadCells_list (P := P) w a cs hc
  cases hq : P.info? ty with
  | none => simp [hq] at hi
  | some i =>
    have hs : i.size = cs.length := by simpa [hq] using hi
    have hagg : (isAgg ty).run P w = .ok true w := by
      unfold isAgg
      rw [Sem.run_bind, run_underlying hu w]
      cases d <;> simp_all
    simp [loadVar, Sem.run_bind, hagg, sizeOf, typeInfo, hq, hs, hl]
end
section
variable {P : Program}
theorem wpList_loadA {ops : Array Oper} {rest : List Oper} {op : Oper} {a : Act} {w : World} {Q : Exit → Act → World → Prop} (hw : Region.wanted op (yielded ops a.tmps) = true) (ty : TypeId) (x : Operand) (ho : op.op = .load ty x)
    (b : Addr) (hx : a.eval x = .pointer (some b)) (l : List Value) (d : TypeDesc) (hc : AtA w b l)
    (hu : P.underlying ty = some d) (hd : d.isRow = true) (hi : (P.info? ty).map (·.size) = some l.length)
    (h : wpList P ops Q rest (a.put op.dst (.agg l.toArray)) w) : wpList P ops Q (op :: rest) a w :=
  wpList_valG hw _ (by
    unfold execOp
    simp only [ho, hx, Instr.loadAt, Instr.sureAddr, Sem.run_bind, Sem.run_pure, Result.andThen_ok, run_loadVar_at w b ty l d hc hu hd hi]) h
end
def pcs (l : List Pc) : List Value := (l.map pcL).flatten
theorem pcs_nil : pcs [] = [] := rfl
theorem pcs_cons (p : Pc) (l : List Pc) : pcs (p :: l) = pcL p ++ pcs l := by simp [pcs]
theorem pcs_app (l m : List Pc) : pcs (l ++ m) = pcs l ++ pcs m := by simp [pcs]
theorem pcs_len (l : List Pc) : (pcs l).length = l.length * 5 := by
  induction l with
  | nil => rfl
  | cons p l ih => rw [pcs_cons, List.length_append, ih]; simp [pcL]; omega
theorem pcs_drop (l : List Pc) (n : Nat) : pcs (l.drop n) = (pcs l).drop (n * 5) := by
  induction l generalizing n with
  | nil => simp [pcs_nil]
  | cons p l ih =>
    cases n with
    | zero => simp
    | succ n =>
      rw [List.drop_succ_cons, ih, pcs_cons, show (n + 1) * 5 = (pcL p).length + n * 5 by simp [pcL]; omega, List.drop_length_add_append]
theorem pcs_take (l : List Pc) (n : Nat) : pcs (l.take n) = (pcs l).take (n * 5) := by
  induction l generalizing n with
  | nil => simp [pcs_nil]
  | cons p l ih =>
    cases n with
    | zero => simp [pcs_nil]
    | succ n =>
      rw [List.take_succ_cons, pcs_cons, pcs_cons, ih, show (n + 1) * 5 = (pcL p).length + n * 5 by simp [pcL]; omega, List.take_length_add_append]
theorem pcs_one (l : List Pc) (i : Nat) (h : i < l.length) : ((pcs l).drop (i * 5)).take 5 = pcL (l.getD i pc0) := by
  rw [← pcs_drop, List.drop_eq_getElem_cons h, pcs_cons]
  simp [pcL, List.getD_eq_getElem?_getD, h]
/-- pieces that lie in memory -/
def RdP (w : World) (B : Nat) (A : Option Addr) (l : List Pc) : Prop := Rd w B A (pcs l)
theorem RdP.open_ {w : World} {B : Nat} {A : Option Addr} {l : List Pc} (h : RdP w B A l) (hn : 0 < l.length) : ∃ ad, A = some ad ∧ ad.block < B ∧ AtA w ad (pcs l) := by
  obtain ⟨ad, rfl, hb, hc⟩ := (show Rd w B A (pcs l) from h) (by intro h0; have := congrArg List.length h0; rw [pcs_len] at this; simp at this; omega)
  exact ⟨ad, rfl, hb, hc⟩
theorem AtA.piece {w : World} {ad : Addr} {l : List Pc} (h : AtA w ad (pcs l)) (i : Nat) (hi : i < l.length) : AtA w (ad.add (i * 5)) (pcL (l.getD i pc0)) := by
  rw [← pcs_one l i hi]; exact h.drop (i * 5) 5
theorem AtA.ser {w : World} {a : Addr} {p : Pc} (h : AtA w a (pcL p)) : w.cell? a = some (.string p.s) := by
  have := h 0 _ rfl
  rwa [show a.add 0 = a by simp [Addr.add]] at this
theorem pcLn (p : Pc) : (Try.prog.info? 31).map (·.size) = some (pcL p).length := by
  show _ = some 5
  kernel_rfl
def greatB (l : List Pc) (m : Nat) : Bool := decide (m < l.length) || (l.take m).any fun p => decide (400 < p.s.size)
theorem greatB_no {l : List Pc} {m : Nat} (h : greatB l m = false) : l.length ≤ m ∧ ∀ p ∈ l, p.s.size ≤ 400 := by
  unfold greatB at h
  rw [Bool.or_eq_false_iff, decide_eq_false_iff_not, List.any_eq_false] at h
  refine ⟨by omega, fun p hp => ?_⟩
  have := h.2 p (by rw [List.take_of_length_le (by omega)]; exact hp)
  simpa using this
set_option maxRecDepth 100000 in
set_option maxHeartbeats 1000000 in
theorem great_c (B : Nat) (A : Option Addr) (c : Nat) (l : List Pc) (m : Nat) (w : World) (hr : RdP w B A l) (h1 : l.length ≤ 9223372036854775807) (hm : m ≤ 1000000) (hs : ∀ p ∈ l, p.s.size ≤ 9223372036854775807) :
    Calls Try.prog 8 #[.slice A l.length c, .int .i64 m] w fun e w' => e = .returned (.bool (greatB l m)) ∧ w = w' := by
  have HR := Lib.hid hr
  clear hr
  go_enter Try.func8, Try.ntmps8
  go_wp2
  go_loop [5] (fun i => ∃ k : Nat, k ≤ l.length ∧ k ≤ m ∧ i = .int .i64 k ∧ ((l.take k).any fun p => decide (400 < p.s.size)) = false) (fun i => l.length - (intOf i).toNat)
  case atStart => exact ⟨0, Nat.zero_le _, Nat.zero_le _, rfl, by simp⟩
  case round =>
    obtain ⟨k, hk, hkm, rfl, hd⟩ := hrel
    have HD := Lib.hid hd
    clear hd
    by_cases hlt : k < l.length ∧ k < m
    · obtain ⟨hlt, hltm⟩ := hlt
      obtain ⟨ad, rfl, _, hat⟩ := HR.out.open_ (by omega)
      have e0 := (hat.piece k hlt).ser
      have HS := Lib.hid (show l.take (k + 1) = l.take k ++ [l.getD k pc0] by rw [List.take_succ_eq_append_getElem hlt]; simp [List.getD_eq_getElem?_getD, hlt])
      have hz := hs (l.getD k pc0) (by simp [List.getD_eq_getElem?_getD, hlt])
      have HMEM := Lib.hid (show l.getD k pc0 ∈ l.take m by
        rw [List.mem_iff_getElem]
        exact ⟨k, by rw [List.length_take]; omega, by simp [List.getD_eq_getElem?_getD, hlt]⟩)
      clear hat
      generalize l.getD k pc0 = p at *
      have p1 : (k : Int) < (l.length : Int) := by omega
      have p2 : (k : Int) < (m : Int) := by omega
      by_cases hg : 400 < p.s.size
      · have HF := Lib.hid (show greatB l m = true by
          unfold greatB
          rw [Bool.or_eq_true, List.any_eq_true]
          exact .inr ⟨p, HMEM.out, decide_eq_true hg⟩)
        clear HMEM
        go_wp2
        go_ret
        exact ⟨by rw [HF.out]; rfl, rfl⟩
      · have HG := Lib.hid hg
        go_wp2
        go_round
        case rel => exact ⟨k + 1, by omega, by omega, by go_num, by rw [HS.out, List.any_append, HD.out, List.any_cons, decide_eq_false HG.out]; rfl⟩
        case measure => simp [intOf]; omega
    · have HF := Lib.hid (show greatB l m = decide (m < l.length) by
        unfold greatB
        by_cases hlm : m < l.length
        · rw [decide_eq_true hlm]; rfl
        · rw [decide_eq_false hlm, Bool.false_or]
          have e : l.take m = l.take k := by rw [List.take_of_length_le (by omega), List.take_of_length_le (by omega)]
          rw [e]; exact HD.out)
      by_cases hkl : k < l.length
      · have hk2 : k = m := by omega
        subst hk2
        have p1 : (k : Int) < (l.length : Int) := by omega
        have HT := Lib.hid (decide_eq_true (show k < l.length from hkl))
        clear hlt
        go_wp2
        go_ret
        exact ⟨by rw [HF.out]; first | rfl | (rw [HT.out]; rfl), rfl⟩
      · have hk2 : k = l.length := by omega
        subst hk2
        have HT := Lib.hid (decide_eq_false (show ¬ m < l.length by omega))
        clear hlt hkl
        go_wp2
        go_ret
        exact ⟨by rw [HF.out]; first | rfl | (rw [HT.out]; rfl), rfl⟩
end Go.Proofs.Ytlidfmbmlhaacaa
