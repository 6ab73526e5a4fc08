/- Contracts of the small functions on bytes that everything calls: Same, Lent, Kept, Clone. -/
import Derived.Test.YtlidfmbmlhaacaaChecked
import Derived.Test.YtlidfmbmlhaacaaOnly
import Derived.Test.YtlidfmbmlhaacaaEq
import Derived.WalkKit
import Derived.WalkSpells
import Derived.Outline
import Derived.Deep.Light
import Derived.BigRegion
import Derived.BigQuiet
import Derived.Lib.Hide
import Derived.Laws.MakeOwn
namespace Go.Proofs.Ytlidfmbmlhaacaa
open Go.RowKit
theorem byteInfo : (Try.prog.info? 5).map (fun i => (i.zero, i.size, i.bytes)) = some (some (.int .u8 0), 1, 1) := by kernel_rfl
def Quietly (v : Value) (w : World) (e : Ending) (w' : World) : Prop := e = .returned v ∧ ∃ n, w' = w.drewN n
theorem quietly_below {w w' : World} {v : Value} {e : Ending} (h : Quietly v w e w') : e = .returned v ∧ Below w.heap.size w w' := by
  obtain ⟨h1, n, rfl⟩ := h
  exact ⟨h1, belowDrewN n (Below.refl _ _)⟩
theorem take_succ_eq {l m : List Nat} {k : Nat} (h1 : k < l.length) (h2 : k < m.length) : l.take (k + 1) = m.take (k + 1) ↔ l.take k = m.take k ∧ l.getD k 0 = m.getD k 0 := by
  rw [List.take_succ_eq_append_getElem h1, List.take_succ_eq_append_getElem h2, List.getD_eq_getElem?_getD, List.getD_eq_getElem?_getD, List.getElem?_eq_getElem h1, List.getElem?_eq_getElem h2]
  constructor
  · intro h
    have := List.append_inj h (by simp; omega)
    exact ⟨this.1, by simpa using this.2⟩
  · rintro ⟨h, h'⟩
    simp at h'
    rw [h, h']
set_option maxRecDepth 100000 in
set_option maxHeartbeats 400000 in
theorem same_c (B C : Nat) (A D : Option Addr) (ca cb : Nat) (l m : List Nat) (w : World) (hl : ∀ c ∈ l, c < 256) (hm : ∀ c ∈ m, c < 256) (hr : Rd w B A (byt l)) (hs : Rd w C D (byt m)) (h1 : l.length ≤ 1000000000) (_h2 : m.length ≤ 1000000000) :
    Calls Try.prog 16 #[.slice A l.length ca, .slice D m.length cb] w (Quietly (.bool (l == m)) w) := by
  have HL := Lib.hid hl
  have HM := Lib.hid hm
  have HR := Lib.hid hr
  have HS := Lib.hid hs
  clear hl hm hr hs
  by_cases hlen : l.length = m.length
  · have HN := Lib.hid hlen
    rw [← hlen]
    have h3 : l.length ≤ m.length := by omega
    clear hlen _h2
    go_enter Try.func16, Try.ntmps16
    go_wp2
    go_loopw [5] (fun i wr => ∃ k q : Nat, k ≤ l.length ∧ i = .int .i64 k ∧ l.take k = m.take k ∧ wr = w.drewN q) (fun i _ => l.length - (intOf i).toNat)
    case atStart => exact ⟨0, 0, Nat.zero_le _, rfl, by simp, rfl⟩
    case round =>
      obtain ⟨k, q, hk, rfl, ht, rfl⟩ := hrel
      have HT := Lib.hid ht
      clear ht
      by_cases hlt : k < l.length
      · obtain ⟨ad, rfl, hab, hca⟩ := HR.out.byte hlt
        obtain ⟨ad2, rfl, hab2, hcb⟩ := HS.out.byte (show k < m.length by omega)
        have HST := Lib.hid (take_succ_eq hlt (show k < m.length by omega))
        have hx := getD_lt HL.out k
        have hy := getD_lt HM.out k
        generalize l.getD k 0 = x at *
        generalize m.getD k 0 = y at *
        have hi1 : (k : Int) < (l.length : Int) := by omega
        by_cases heq : x = y
        · subst heq
          go_wp2
          go_quiet (fail)
          go_wp2
          go_roundw
          case rel => exact ⟨k + 1, _, by omega, by go_num, HST.out.2 (by first | exact ⟨HT.out, rfl⟩ | exact ⟨HT.out, trivial⟩), rfl⟩
          case measure => simp [intOf]; omega
        · have t1 : (((x : Nat) : Int) != (y : Int)) = true := by rw [bne_iff_ne]; omega
          have HE := Lib.hid heq
          clear heq
          go_wp2
          go_quiet (fail)
          go_wp2
          go_ret
          have hne : l ≠ m := fun h => by
            subst h
            have := HST.out.1 rfl
            exact HE.out this.2
          have e : (l == m) = false := by simpa using hne
          rw [e]
          exact ⟨rfl, _, World.drewN_drewN ..⟩
      · obtain rfl : k = l.length := by omega
        go_wp2
        go_ret
        have e : l = m := by
          have := HT.out
          rw [List.take_length, HN.out, List.take_length] at this
          exact this
        have e2 : (l == m) = true := by simpa using e
        rw [e2]
        exact ⟨rfl, _, rfl⟩
  · have hne : l ≠ m := fun h => hlen (by rw [h])
    have e : (l == m) = false := by simpa using hne
    rw [e]
    have t1 : (((l.length : Nat) : Int) != (m.length : Int)) = true := by rw [bne_iff_ne]; omega
    clear hlen hne e
    go_enter Try.func16, Try.ntmps16
    go_wp2
    go_ret
    exact ⟨rfl, 0, rfl⟩
theorem vb_set (l : List Nat) (i n : Nat) : (vb l).setIfInBounds i (.int .u8 (n : Int)) = vb (l.set i n) := by
  unfold vb byt
  rw [List.setIfInBounds_toArray]
  congr 1
  rw [List.map_set]
theorem made_bytes (n : Nat) : madeCells #[.int .u8 0] n = vb (List.replicate n 0) := by
  apply Array.toList_inj.1
  rw [toList_madeCells_one]
  simp [vb, byt]
theorem run_make_bytes (n : Nat) (hn : n ≤ 1000000000) (w : World) :
    (Instr.makeSlice 32 (.int .i64 (n : Int)) (.int .i64 (n : Int))).run Try.prog w = .ok (.slice (some ⟨w.heap.size, 0, none⟩) n n) (w.alloc (.cells (vb (List.replicate n 0)) 5)) := by
  obtain ⟨i, hi, hz, h1, h2⟩ := info_parts byteInfo
  have hr := run_make (P := Try.prog) w 32 5 i (.int .u8 0) Try.underlying32 hi hz .i64 .i64 (n : Int) (n : Int) (by omega) (by omega) (by rw [h2]; omega) (by omega)
  rw [h1] at hr
  simp only [Int.toNat_natCast] at hr
  rw [← made_bytes]
  simpa [Value.cells] using hr
theorem hide_ {p : Prop} (h : p) : Hid p := h
theorem unhide_ {p : Prop} (h : Hid p) : p := h
/-- lent bytes, with eight more behind them -/
def lent (l : List Nat) : List Nat := l ++ List.replicate 8 165
def lentTo (l : List Nat) (k : Nat) : List Nat := (lent l).take k ++ List.replicate (l.length + 8 - k) 0
theorem lent_len (l : List Nat) : (lent l).length = l.length + 8 := by simp [lent]
theorem lentTo_set (l : List Nat) (k : Nat) (h : k < l.length + 8) : (lentTo l k).set k ((lent l).getD k 0) = lentTo l (k + 1) := by
  have hk : k < (lent l).length := by rw [lent_len]; exact h
  unfold lentTo
  rw [List.take_succ_eq_append_getElem hk, List.getD_eq_getElem?_getD, List.getElem?_eq_getElem hk, show l.length + 8 - k = (l.length + 8 - (k + 1)) + 1 by omega, List.replicate_succ]
  rw [List.set_append, if_neg (by rw [List.length_take]; omega)]
  rw [List.length_take, Nat.min_eq_left (by omega), Nat.sub_self, List.set_cons_zero, List.append_assoc, List.singleton_append, Option.getD_some]
theorem lentTo_all (l : List Nat) : lentTo l (l.length + 8) = lent l := by
  unfold lentTo
  rw [List.take_of_length_le (by rw [lent_len]; exact Nat.le_refl _)]; simp
theorem lent_at {l : List Nat} {k : Nat} (h : k < l.length) : (lent l).getD k 0 = l.getD k 0 := by
  simp [lent, List.getD_eq_getElem?_getD, List.getElem?_append, h]
theorem lent_far {l : List Nat} {k : Nat} (h : l.length ≤ k) (h2 : k < l.length + 8) : (lent l).getD k 0 = 165 := by
  rw [List.getD_eq_getElem?_getD, lent, List.getElem?_append_right h, List.getElem?_replicate, if_pos (by omega)]
  rfl
theorem lent_lt {l : List Nat} (h : ∀ c ∈ l, c < 256) : ∀ c ∈ lent l, c < 256 := fun c hc => by
  rcases List.mem_append.1 hc with hc | hc
  · exact h c hc
  · rw [List.eq_of_mem_replicate hc]; omega
/-- the block that lent bytes lie in -/
def LentAt (w : World) (g : Nat) (l : List Nat) : Prop := Blk w g 5 (vb (lent l))
theorem rd_blk {w : World} {g : Nat} {T : TypeId} {cs : Array Value} (h : Blk w g T cs) (xs : List Value) (n : Nat) (hx : xs = cs.toList.take n) : Rd w (g + 1) (some ⟨g, 0, none⟩) xs := fun _ =>
  ⟨_, rfl, Nat.lt_succ_self _, fun j u hu => by
    have e1 : (Addr.add ⟨g, 0, none⟩ j) = ⟨g, j, none⟩ := by
      unfold Addr.add; split
      · subst_vars; rfl
      · simp
    rw [e1, h.cell]
    rw [hx] at hu
    have hj : j < n := by
      rcases Nat.lt_or_ge j n with h1 | h1
      · exact h1
      · rw [List.getElem?_eq_none (by rw [List.length_take]; omega)] at hu; cases hu
    rw [List.getElem?_take_of_lt hj] at hu
    simpa using hu⟩
theorem LentAt.rd {w : World} {g : Nat} {l : List Nat} (h : LentAt w g l) : Rd w (g + 1) (some ⟨g, 0, none⟩) (byt l) :=
  rd_blk h (byt l) l.length (by simp [vb, lent, byt])
set_option maxRecDepth 100000 in
set_option maxHeartbeats 400000 in
theorem lent_c (A : Option Addr) (ca : Nat) (l : List Nat) (w : World) (hl : ∀ c ∈ l, c < 256) (hr : Rd w w.heap.size A (byt l)) (h1 : l.length ≤ 100000000) :
    Calls Try.prog 19 #[.slice A l.length ca] w fun e w' => e = .returned (.slice (some ⟨w.heap.size, 0, none⟩) l.length (l.length + 8)) ∧ LentAt w' w.heap.size l ∧ Below w.heap.size w w' := by
  have HL := Lib.hid hl
  have HR := Lib.hid hr
  clear hl hr
  have hmk := run_make_bytes (l.length + 8) (by omega) w
  rw [show ((l.length + 8 : Nat) : Int) = (l.length : Int) + 8 by omega] at hmk
  go_enter Try.func19, Try.ntmps19
  go_wp2
  clear hmk
  go_loopw [4] (fun i wr => ∃ k : Nat, k ≤ l.length + 8 ∧ i = .int .i64 k ∧ Blk wr w.heap.size 5 (vb (lentTo l k)) ∧ Below w.heap.size w wr) (fun i _ => l.length + 8 - (intOf i).toNat)
  case atStart => exact ⟨0, Nat.zero_le _, rfl, (by unfold lentTo; simpa using Blk.new w _ _), (Below.refl _ _).alloc (Nat.le_refl _) _⟩
  case round =>
    rename_i wr
    obtain ⟨k, hk, rfl, hb, hbel⟩ := hrel
    have HB := Lib.hid hb
    have HW := Lib.hid hbel
    by_cases hlt : k < l.length + 8
    · have hsz : (lentTo l k).length = l.length + 8 := by unfold lentTo; simp [lent_len]; omega
      obtain ⟨v0, c0⟩ : ∃ v, wr.cell? ⟨w.heap.size, k, none⟩ = some v := ⟨_, (hb.cell k).trans (Array.getElem?_eq_getElem (by rw [vb_size, hsz]; exact hlt))⟩
      have f0 := hb.free k
      have HST := Lib.hid (lentTo_set l k hlt)
      clear hb hsz
      by_cases hkl : k < l.length
      · obtain ⟨ad, rfl, hab, hca⟩ := (HR.out.below hbel).byte hkl
        have HAT := Lib.hid (lent_at hkl)
        have hx := getD_lt HL.out k
        clear hbel
        generalize l.getD k 0 = x at *
        go_wp2
        go_roundw
        case rel =>
          go_light
          exact ⟨k + 1, by omega, by go_num, by rw [← HST.out, HAT.out, ← vb_set]; exact HB.out.set_ k _, HW.out.setCell (Nat.le_refl _) _⟩
        case measure => simp [intOf]; omega
      · have HAT := Lib.hid (lent_far (l := l) (show l.length ≤ k by omega) hlt)
        clear hbel
        go_wp2
        go_roundw
        case rel =>
          go_light
          exact ⟨k + 1, by omega, by go_num, by rw [← HST.out, HAT.out, ← vb_set]; exact HB.out.set_ k _, HW.out.setCell (Nat.le_refl _) _⟩
        case measure => simp [intOf]; omega
    · obtain rfl : k = l.length + 8 := by omega
      clear hb hbel
      go_wp2
      go_ret
      exact ⟨rfl, by unfold LentAt; rw [← lentTo_all]; exact HB.out, HW.out⟩
set_option maxRecDepth 100000 in
set_option maxHeartbeats 400000 in
theorem kept_c (g C : Nat) (D : Option Addr) (cb : Nat) (l : List Nat) (w : World) (hl : ∀ c ∈ l, c < 256) (hg : LentAt w g l) (hr : Rd w C D (byt l)) (h1 : l.length ≤ 100000000) :
    Calls Try.prog 20 #[.slice (some ⟨g, 0, none⟩) l.length (l.length + 8), .slice D l.length cb] w (Quietly (.bool true) w) := by
  have HG := Lib.hid hg
  have hsame := same_c (g + 1) C (some ⟨g, 0, none⟩) D (l.length + 8) cb l l w hl hl hg.rd hr (by omega) (by omega)
  rw [beq_self_eq_true] at hsame
  have HS := hide_ hsame
  clear hsame hg hr
  go_enter Try.func20, Try.ntmps20
  go_wp2_with fail
  refine (unhide_ HS).mono ?_
  rintro e w1 ⟨rfl, q, rfl⟩
  go_wp2
  go_loopw [6] (fun i wr => ∃ k q : Nat, l.length ≤ k ∧ k ≤ l.length + 8 ∧ i = .int .i64 k ∧ wr = w.drewN q) (fun i _ => l.length + 8 - (intOf i).toNat)
  case atStart => exact ⟨l.length, q, Nat.le_refl _, by omega, rfl, rfl⟩
  case round =>
    obtain ⟨k, q, hk1, hk, rfl, rfl⟩ := hrel
    by_cases hlt : k < l.length + 8
    · have c0 : w.cell? ⟨g, k, none⟩ = some (.int .u8 165) := by
        have hk' : k < (lent l).length := by rw [lent_len]; exact hlt
        rw [HG.out.cell k]
        have := byt_at hk'
        rw [lent_far hk1 hlt] at this
        simpa [vb] using this
      go_wp2
      go_roundw
      case rel => exact ⟨k + 1, _, by omega, by omega, by go_num, rfl⟩
      case measure => simp [intOf]; omega
    · obtain rfl : k = l.length + 8 := by omega
      go_wp2
      go_ret
      exact ⟨rfl, _, rfl⟩
end Go.Proofs.Ytlidfmbmlhaacaa
