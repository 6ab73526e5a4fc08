/- Parts, one behind the other: Bx2 OpX Cb1 Cb2 Mk2 Cb3 CaN Cb4 Cc0 Cc1 Cd0 CdM RtM Ce0. -/
import Derived.Test.YtldjbbcfbjpfcaaDoorZ05
import Derived.Lib.ConvBytes
import Derived.Laws.IdiomCopy
import Derived.OrdersHeld
import Derived.Laws.Rows
import Derived.Great.BuildSlice
import Derived.Lib.SlBytesConst
import Derived.Laws.ResultCell
import Derived.Laws.Bits128
import Derived.BigQuiet
/- Contracts: what stands beside; which boxes may be. -/
namespace Go.Proofs.YtldjbbcfbjpfcaaDoor
open Go.RowKit
set_option linter.unusedVariables false
set_option linter.unusedSimpArgs false
def besideL (kd : Nat) (s : ByteArray) (ep : Nat) : List Nat := ([kd] ++ form ep 4) ++ sby s
theorem beside_len (kd : Nat) (s : ByteArray) (ep : Nat) : (besideL kd s ep).length = 5 + s.size := by unfold besideL; simp only [List.length_append, List.length_cons, List.length_nil, form_len, sby_size]
theorem beside_lt (kd : Nat) (s : ByteArray) (ep : Nat) (hk : kd < 256) : ∀ c ∈ besideL kd s ep, c < 256 := fun c hc => by
  unfold besideL at hc
  rcases List.mem_append.1 hc with h | h
  · rcases List.mem_append.1 h with h | h
    · rw [List.mem_singleton.1 h]; exact hk
    · exact form_lt _ _ c h
  · exact sby_lt _ c h
theorem tailOf4 (n : Nat) : tailOf n 4 = form n 4 := rfl
set_option maxRecDepth 100000 in
set_option maxHeartbeats 2000000 in
theorem beside_c (kd : Nat) (s : ByteArray) (ep : Nat) (w : World) (he : ep < 4294967296) (hs : s.size ≤ 1000000) :
    Calls Tryd.prog 24 #[.int .u8 (kd : Nat), .string s, .int .u32 (ep : Nat)] w (Gives (besideL kd s ep) w) := by
  obtain ⟨i0, hi, hz0, hz1, hz2⟩ := info_parts byteInfo
  obtain ⟨Z, hZ⟩ : ∃ Z, Z = w.alloc (Obj.cells #[Value.int .u8 (kd : Int)] 5) := ⟨_, rfl⟩
  have HBZ := Lib.hid (show Below w.heap.size w Z by rw [hZ]; exact (Below.refl _ _).alloc (Nat.le_refl _) _)
  have HP := Lib.hid (show Calls Tryd.prog 17 #[.slice (some ⟨w.heap.size, 0, none⟩) 1 1, .int .u64 (ep : Nat), .int .i64 4] Z (Gives ([kd] ++ form ep 4) Z) by
    have h := put_c (w.heap.size + 1) (some ⟨w.heap.size, 0, none⟩) 1 [kd] ep 4 Z (by rw [hZ]; exact rd_new w (byt [kd]) 5 (0, 0)) (by omega) (by decide) (by decide) (by simp)
    rw [tailOf4] at h
    exact h)
  obtain ⟨m, hm⟩ : ∃ m, m = [kd] ++ form ep 4 := ⟨_, rfl⟩
  have hml : m.length = 5 := by rw [hm, List.length_append, form_len]; rfl
  rw [← hm] at HP
  have HE := Lib.hid (show besideL kd s ep = m ++ sby s by unfold besideL; rw [hm])
  have fe : IntKind.u64.wrap (ep : Int) = (ep : Int) := by rw [IntKind.wrap_u64]; omega
  have H63 := Lib.hid (show m.length + s.size ≤ maxLen by simp only [maxLen]; omega)
  have HBY := Lib.hid (show m.length + s.size ≤ 140737488355328 by omega)
  clear hm hml
  go_enter Tryd.func24, Tryd.ntmps24
  go_wp2_with (first
    | (go_at_call 17; (refine (show Calls _ _ _ (w.alloc (Obj.cells #[Value.int .u8 (kd : Int)] 5)) _ from ?_)); rw [← hZ]; (refine HP.out.mono ?_); rintro e W1 ⟨v1, rfl, ho, hb⟩; have HO1 := Lib.hid (show OwnB W1 w.heap.size v1 m from own_base_le ho HBZ.out.size); have HB1 := Lib.hid (HBZ.out.trans (hb.mono HBZ.out.size)); clear ho hb)
    | (refine Lib.wpList_append_own_string _ rfl (.tmp 11) (.tmp 12) 25 9 rfl w.heap.size 5 i0 Tryd.underlying25 Tryd.underlying9 hi hz0 hz1 hz2 v1 m.length (byt m) rfl HO1.out s rfl H63.out HBY.out HB1.out.size ?_; intro v9 w9 ho hgr _; have HO9 := Lib.hid (own_str ho); have HB9 := Lib.hid (HB1.out.trans (below_grown HO1.out hgr HB1.out.size)); clear ho hgr))
  go_ret
  exact ⟨_, rfl, by rw [HE.out]; exact HO9.out, HB9.out⟩
/-- a box, as cells -/
def bxL (t : ByteArray) (ep : Nat) (nn : List Nat) (A : Option Addr) (n c : Nat) : List Value := [.string t, .int .u32 (ep : Int)] ++ byt nn ++ [.slice A n c]
def bxV (t : ByteArray) (ep : Nat) (nn : List Nat) (A : Option Addr) (n c : Nat) : Array Value := (bxL t ep nn A n c).toArray
theorem bxL_len (t : ByteArray) (ep : Nat) {nn : List Nat} (A : Option Addr) (n c : Nat) (h : nn.length = 12) : (bxL t ep nn A n c).length = 15 := by unfold bxL; simp only [List.length_append, List.length_cons, List.length_nil, byt_len, h]
theorem bxLn (t : ByteArray) (ep : Nat) {nn : List Nat} (A : Option Addr) (n c : Nat) (h : nn.length = 12) : (Tryd.prog.info? 27).map (·.size) = some (bxL t ep nn A n c).length := by rw [bxL_len t ep A n c h]; kernel_rfl
theorem bxSz (t : ByteArray) (ep : Nat) {nn : List Nat} (A : Option Addr) (n c : Nat) (h : nn.length = 12) : (Tryd.prog.info? 27).map (·.size) = some (bxV t ep nn A n c).size := by unfold bxV; rw [List.size_toArray]; exact bxLn t ep A n c h
theorem bx_c0 (t : ByteArray) (ep : Nat) (nn : List Nat) (A : Option Addr) (n c : Nat) : (bxV t ep nn A n c)[0]? = some (.string t) := rfl
theorem bx_c1 (t : ByteArray) (ep : Nat) (nn : List Nat) (A : Option Addr) (n c : Nat) : (bxV t ep nn A n c)[1]? = some (.int .u32 (ep : Int)) := rfl
theorem bx_c14 (t : ByteArray) (ep : Nat) {nn : List Nat} (A : Option Addr) (n c : Nat) (h : nn.length = 12) : (bxV t ep nn A n c)[14]? = some (.slice A n c) := by
  unfold bxV bxL
  rw [List.getElem?_toArray, List.getElem?_append_right (by simp [byt_len, h])]
  simp [byt_len, h]
theorem bx_one (t : ByteArray) (ep : Nat) (nn : List Nat) (A : Option Addr) (n c : Nat) : ∀ u ∈ (bxV t ep nn A n c).toList, u.oneCell' = true := by
  intro u hu
  simp only [bxV, bxL, List.mem_append, List.mem_cons, List.not_mem_nil, or_false] at hu
  rcases hu with ((rfl | rfl) | hu) | rfl
  · rfl
  · rfl
  · exact byt_one nn u hu
  · rfl
theorem bx_nonce {w : World} {g : Nat} {T : TypeId} {t : ByteArray} {ep : Nat} {nn : List Nat} {A : Option Addr} {n c : Nat} (h : Blk w g T (bxV t ep nn A n c)) : w.rangeAt g 2 (byt nn) := fun i u hu => by
  refine (h.cell (2 + i)).trans ?_
  have hi : i < (byt nn).length := (List.getElem?_eq_some_iff.1 hu).1
  unfold bxV bxL
  rw [List.getElem?_toArray, List.append_assoc, List.getElem?_append_right (by simp), List.getElem?_append_left (by simp at hi ⊢; omega)]
  simpa using hu
/-- the error of what may be, or not -/
def okE (b : Bool) : Int := if b then 0 else 1
def checkB (t : ByteArray) (n : Nat) : Bool := nameB t && (decide (16 ≤ n) && decide (n ≤ 4112))
set_option maxRecDepth 100000 in
set_option maxHeartbeats 2000000 in
theorem check16_c (t : ByteArray) (ep : Nat) (nn : List Nat) (A : Option Addr) (n c : Nat) (w : World) (hn : nn.length = 12) (hs : t.size ≤ 1000000) (hb : n ≤ 1000000000) :
    Calls Tryd.prog 14 #[.agg (bxV t ep nn A n c)] w fun e w' => e = .returned (.int .i64 (okE (checkB t n))) ∧ Below w.heap.size w w' := by
  have HN := Lib.hid (fun W => name_c t W (by omega))
  have HC := Lib.hid (show checkB t n = (nameB t && (decide (16 ≤ n) && decide (n ≤ 4112))) from rfl)
  obtain ⟨r, hr⟩ : ∃ r, r = checkB t n := ⟨_, rfl⟩
  rw [← hr] at HC ⊢
  clear hr
  obtain ⟨Z, hZ⟩ : ∃ Z, Z = w.alloc (Obj.cells (bxV t ep nn A n c) 27) := ⟨_, rfl⟩
  have h1 := show Blk Z w.heap.size 27 (bxV t ep nn A n c) by rw [hZ]; exact Blk.new w _ _
  have HB := Lib.hid (show Below w.heap.size w Z by rw [hZ]; exact (Below.refl _ _).alloc (Nat.le_refl _) _)
  have c0 : Z.cell? ⟨w.heap.size, 0, none⟩ = some (.string t) := (h1.cell 0).trans (bx_c0 ..)
  have c14 : Z.cell? ⟨w.heap.size, 14, none⟩ = some (.slice A n c) := (h1.cell 14).trans (bx_c14 _ _ _ _ _ hn)
  clear h1
  go_enter Tryd.func14, Tryd.ntmps14
  go_upto_region 1 with (refine Go.Great.wpList_boxTo rfl 27 (.tmp 0) rfl (some 1) rfl w.heap.size rfl (bxV t ep nn A n c) rfl ?_)
  rw [← hZ]
  cases hnm : nameB t with
  | false =>
    rw [hnm] at HN HC
    have HV := Lib.hid (show r = false by rw [HC.out]; rfl)
    clear hZ hnm
    go_wp2_with (go_at_call 21; (refine (HN.out Z).mono ?_); rintro e W1 ⟨rfl, rfl⟩)
    go_ret
    exact ⟨by rw [HV.out]; rfl, HB.out⟩
  | true =>
    rw [hnm] at HN HC
    clear hZ hnm
    rcases (show n < 16 ∨ (16 ≤ n ∧ n ≤ 4112) ∨ 4112 < n by omega) with hz | hz | hz
    · have HV := Lib.hid (show r = false by rw [HC.out]; simp; omega)
      have q1 : (n : Int) < 16 ∨ ¬ (n : Int) < 16 := by omega
      clear q1
      have q2 : decide ((n : Int) < 16) = true := decide_eq_true (by omega)
      have q3 : decide ((4112 : Int) < (n : Int)) = false := decide_eq_false (by omega)
      have q4 : decide ((16 : Int) ≤ (n : Int)) = false := decide_eq_false (by omega)
      have q5 : decide ((n : Int) ≤ 4112) = true := decide_eq_true (by omega)
      clear hz
      go_wp2_with (go_at_call 21; (refine (HN.out Z).mono ?_); rintro e W1 ⟨rfl, rfl⟩)
      go_ret
      exact ⟨by rw [HV.out]; rfl, HB.out⟩
    · have HV := Lib.hid (show r = true by rw [HC.out]; simp; omega)
      have q1 : (n : Int) < 16 ∨ ¬ (n : Int) < 16 := by omega
      clear q1
      have q2 : decide ((n : Int) < 16) = false := decide_eq_false (by omega)
      have q3 : decide ((4112 : Int) < (n : Int)) = false := decide_eq_false (by omega)
      have q4 : decide ((16 : Int) ≤ (n : Int)) = true := decide_eq_true (by omega)
      have q5 : decide ((n : Int) ≤ 4112) = true := decide_eq_true (by omega)
      clear hz
      go_wp2_with (go_at_call 21; (refine (HN.out Z).mono ?_); rintro e W1 ⟨rfl, rfl⟩)
      go_ret
      exact ⟨by rw [HV.out]; rfl, HB.out⟩
    · have HV := Lib.hid (show r = false by rw [HC.out]; simp; omega)
      have q1 : (n : Int) < 16 ∨ ¬ (n : Int) < 16 := by omega
      clear q1
      have q2 : decide ((n : Int) < 16) = false := decide_eq_false (by omega)
      have q3 : decide ((4112 : Int) < (n : Int)) = true := decide_eq_true (by omega)
      have q4 : decide ((16 : Int) ≤ (n : Int)) = true := decide_eq_true (by omega)
      have q5 : decide ((n : Int) ≤ 4112) = false := decide_eq_false (by omega)
      clear hz
      go_wp2_with (go_at_call 21; (refine (HN.out Z).mono ?_); rintro e W1 ⟨rfl, rfl⟩)
      go_ret
      exact ⟨by rw [HV.out]; rfl, HB.out⟩
set_option maxRecDepth 100000 in
set_option maxHeartbeats 2000000 in
theorem rcheck16_c (t : ByteArray) (ep : Nat) (nn : List Nat) (A : Option Addr) (n c : Nat) (w : World) (hn : nn.length = 12) (hs : t.size ≤ 1000000) (hb : n ≤ 1000000000) :
    Calls Tryd.prog 4 #[.agg (bxV t ep nn A n c)] w fun e w' => e = .returned (.bool (checkB t n)) ∧ Below w.heap.size w w' := by
  have HN := Lib.hid (fun W => rname_c t W (by omega))
  have HC := Lib.hid (show checkB t n = (nameB t && (decide (16 ≤ n) && decide (n ≤ 4112))) from rfl)
  obtain ⟨r, hr⟩ : ∃ r, r = checkB t n := ⟨_, rfl⟩
  rw [← hr] at HC ⊢
  clear hr
  obtain ⟨Z, hZ⟩ : ∃ Z, Z = w.alloc (Obj.cells (bxV t ep nn A n c) 27) := ⟨_, rfl⟩
  have h1 := show Blk Z w.heap.size 27 (bxV t ep nn A n c) by rw [hZ]; exact Blk.new w _ _
  have HB := Lib.hid (show Below w.heap.size w Z by rw [hZ]; exact (Below.refl _ _).alloc (Nat.le_refl _) _)
  have c0 : Z.cell? ⟨w.heap.size, 0, none⟩ = some (.string t) := (h1.cell 0).trans (bx_c0 ..)
  have c14 : Z.cell? ⟨w.heap.size, 14, none⟩ = some (.slice A n c) := (h1.cell 14).trans (bx_c14 _ _ _ _ _ hn)
  clear h1
  go_enter Tryd.func4, Tryd.ntmps4
  go_upto_region 1 with (refine Go.Great.wpList_boxTo rfl 27 (.tmp 0) rfl (some 1) rfl w.heap.size rfl (bxV t ep nn A n c) rfl ?_)
  rw [← hZ]
  cases hnm : nameB t with
  | false =>
    rw [hnm] at HN HC
    have HV := Lib.hid (show r = false by rw [HC.out]; rfl)
    clear hZ hnm
    go_wp2_with (go_at_call 11; (refine (HN.out Z).mono ?_); rintro e W1 ⟨rfl, rfl⟩)
    go_ret
    exact ⟨by rw [HV.out]; rfl, HB.out⟩
  | true =>
    rw [hnm] at HN HC
    clear hZ hnm
    rcases (show n < 16 ∨ (16 ≤ n ∧ n ≤ 4112) ∨ 4112 < n by omega) with hz | hz | hz
    · have HV := Lib.hid (show r = false by rw [HC.out]; simp; omega)
      have q1 : (n : Int) < 16 ∨ ¬ (n : Int) < 16 := by omega
      clear q1
      have q2 : decide ((n : Int) < 16) = true := decide_eq_true (by omega)
      have q3 : decide ((4112 : Int) < (n : Int)) = false := decide_eq_false (by omega)
      have q4 : decide ((16 : Int) ≤ (n : Int)) = false := decide_eq_false (by omega)
      have q5 : decide ((n : Int) ≤ 4112) = true := decide_eq_true (by omega)
      clear hz
      go_wp2_with (go_at_call 11; (refine (HN.out Z).mono ?_); rintro e W1 ⟨rfl, rfl⟩)
      go_ret
      exact ⟨by rw [HV.out]; rfl, HB.out⟩
    · have HV := Lib.hid (show r = true by rw [HC.out]; simp; omega)
      have q1 : (n : Int) < 16 ∨ ¬ (n : Int) < 16 := by omega
      clear q1
      have q2 : decide ((n : Int) < 16) = false := decide_eq_false (by omega)
      have q3 : decide ((4112 : Int) < (n : Int)) = false := decide_eq_false (by omega)
      have q4 : decide ((16 : Int) ≤ (n : Int)) = true := decide_eq_true (by omega)
      have q5 : decide ((n : Int) ≤ 4112) = true := decide_eq_true (by omega)
      clear hz
      go_wp2_with (go_at_call 11; (refine (HN.out Z).mono ?_); rintro e W1 ⟨rfl, rfl⟩)
      go_ret
      exact ⟨by rw [HV.out]; rfl, HB.out⟩
    · have HV := Lib.hid (show r = false by rw [HC.out]; simp; omega)
      have q1 : (n : Int) < 16 ∨ ¬ (n : Int) < 16 := by omega
      clear q1
      have q2 : decide ((n : Int) < 16) = false := decide_eq_false (by omega)
      have q3 : decide ((4112 : Int) < (n : Int)) = true := decide_eq_true (by omega)
      have q4 : decide ((16 : Int) ≤ (n : Int)) = true := decide_eq_true (by omega)
      have q5 : decide ((n : Int) ≤ 4112) = false := decide_eq_false (by omega)
      clear hz
      go_wp2_with (go_at_call 11; (refine (HN.out Z).mono ?_); rintro e W1 ⟨rfl, rfl⟩)
      go_ret
      exact ⟨by rw [HV.out]; rfl, HB.out⟩
end Go.Proofs.YtldjbbcfbjpfcaaDoor
/- A box that came in by value, opened. -/
namespace Go.Proofs.YtldjbbcfbjpfcaaDoor
set_option maxRecDepth 100000
open Go.ChangeShapes Go.WideShapes Go.ChangeAt Go.RowKit
set_option linter.unusedVariables false
theorem bytes_ofX {H : Type} {enc : TypeId × Value → H} {W : World} {fuel : Nat} {cs : List Value} {y : DataW H × List MemPlace} (hf : DataW.trod enc Tryd.prog W 0 (fun _ => true) true fuel 25 cs = some y) :
    ∃ (A : Option Addr) (l : List Nat) (cap : Nat), cs = [.slice A l.length cap] ∧ (∀ c ∈ l, c < 256) ∧ Rd W W.heap.size A (byt l) ∧ l.length ≤ cap ∧ l.length ≤ maxLen := by
  rcases open_ints Tryd.underlying25 Tryd.underlying5 (by kernel_rfl) hf with ⟨hcs, _⟩ | ⟨x, len, cap, zs, hcs, _, hl, hm, hz, _, hcell, hwz⟩
  · exact ⟨none, [], 0, hcs, by simp, Rd.nil_ _ _ _, by simp, by simp⟩
  · have hz' : zs.length = cap := by simpa using hz
    have hlen : ((zs.take len).map Int.toNat).length = len := by simp; omega
    refine ⟨some x, (zs.take len).map Int.toNat, cap, by rw [hlen]; exact hcs, ?_, ?_, by rw [hlen]; omega, by rw [hlen]; omega⟩
    · intro c hc
      obtain ⟨z, hz1, rfl⟩ := List.mem_map.1 hc
      have := bounds_u8 (hwz z (List.mem_of_mem_take hz1))
      omega
    · intro hne
      have h0 : 0 < len := by
        rcases Nat.eq_zero_or_pos len with h0 | h0
        · subst h0; simp [byt] at hne
        · exact h0
      have hc0 := hcell 0 (by omega)
      refine ⟨x, rfl, by have := block_lt hc0; rwa [add_block] at this, fun j u hu => ?_⟩
      have hj : j < len := by
        rcases Nat.lt_or_ge j len with h1 | h1
        · exact h1
        · rw [List.getElem?_eq_none (by rw [byt_len, hlen]; exact h1)] at hu; cases hu
      have hjz : j < zs.length := by omega
      rw [hcell j hjz]
      rw [byt_at (by rw [hlen]; exact hj)] at hu
      rw [← hu, List.getD_eq_getElem?_getD, List.getD_eq_getElem?_getD, List.getElem?_map, List.getElem?_take_of_lt hj, List.getElem?_eq_getElem hjz]
      have := bounds_u8 (hwz zs[j] (List.getElem_mem _))
      simp
      omega
theorem open_box {H : Type} {enc : TypeId × Value → H} {W : World} {base : Nat} {v : Value} {d : DataW H} {p : List MemPlace} (hv : Value.okWide Tryd.prog W .any base 27 v)
    (h : DataW.Trod enc Tryd.prog W 0 (fun _ => true) true 27 v d p) :
    ∃ (t : ByteArray) (e : Nat) (nn : List Nat) (A : Option Addr) (l : List Nat) (cap : Nat), v = .agg (bxV t e nn A l.length cap) ∧ t.size ≤ 9223372036854775807 ∧ e < 4294967296 ∧ nn.length = 12 ∧ (∀ c ∈ nn, c < 256) ∧ l.length ≤ cap ∧ (∀ c ∈ l, c < 256) ∧ Rd W W.heap.size A (byt l) ∧ l.length ≤ 9223372036854775807 := by
  obtain ⟨f0, f1, f2, f3, hs, ⟨o0, o1, o2, o3⟩, k0, k1, k2, k3⟩ : ∃ f0 f1 f2 f3 : Field, Tryd.prog.underlying 27 = some (.struct #[f0, f1, f2, f3]) ∧ (f0.offset = 0 ∧ f1.offset = 1 ∧ f2.offset = 2 ∧ f3.offset = 14) ∧ f0.type = 9 ∧ f1.type = 22 ∧ f2.type = 24 ∧ f3.type = 25 := ⟨_, _, _, _, Tryd.underlying27, ⟨rfl, rfl, rfl, rfl⟩, rfl, rfl, rfl, rfl⟩
  obtain ⟨cs, rfl, hsz⟩ := okWide_struct hs hv
  have hC : Tryd.prog.cellsOf 27 = 15 := by kernel_rfl
  have hcs : Tryd.prog.cellsOf 9 = 1 := by kernel_rfl
  have hc32 : Tryd.prog.cellsOf 22 = 1 := by kernel_rfl
  have hcN : Tryd.prog.cellsOf 24 = 12 := by kernel_rfl
  have hcB : Tryd.prog.cellsOf 25 = 1 := by kernel_rfl
  obtain ⟨fuel, hf⟩ := h
  obtain ⟨xs, n, _, hx, hlc, hlen, hg⟩ := DataW.trod_struct hs hf
  simp only [Value.cells] at hf hlc hg
  have hlen' : xs.length = 4 := hlen
  have g0 := hg 0 f0 rfl
  rw [k0, o0, hcs, List.getElem?_eq_getElem (by omega)] at g0
  have g1 := hg 1 f1 rfl
  rw [k1, o1, hc32, List.getElem?_eq_getElem (by omega)] at g1
  have g2 := hg 2 f2 rfl
  rw [k2, o2, hcN, List.getElem?_eq_getElem (by omega)] at g2
  have g3 := hg 3 f3 rfl
  rw [k3, o3, hcB, List.getElem?_eq_getElem (by omega)] at g3
  obtain ⟨s, e0, _, hss⟩ := DataW.trod_string Tryd.underlying9 g0
  obtain ⟨z1, e1, _, w1⟩ := DataW.trod_int Tryd.underlying22 g1
  have b1 := bounds_u32 w1
  obtain ⟨n1, rfl⟩ := Int.eq_ofNat_of_zero_le b1.1
  obtain ⟨nn, en, hnl, hns⟩ := barr_of Tryd.underlying24 hcN g2
  obtain ⟨A, l, cap, ed, hl, hr, hlc2, hlm⟩ := bytes_ofX g3
  refine ⟨s, n1, nn, A, l, cap, ?_, by simpa [maxLen] using hss, by omega, hnl, hns, hlc2, hl, hr, by simpa [maxLen] using hlm⟩
  congr 1
  apply Array.toList_inj.1
  have c0 := cut_eqP (n := 1) 0 [_] rfl e0
  have c1 := cut_eqP (n := 1) 1 [_] rfl e1
  have c2 := cut_eqP (n := 12) 2 (byt nn) (by rw [byt_len, hnl]) en
  have c3 := cut_eqP (n := 1) 14 [_] rfl ed
  have hend : cs.toList.drop (14 + 1) = [] := List.drop_of_length_le (by rw [hlc, hC]; decide)
  rw [List.drop_zero] at c0
  rw [c0, c1, c2, c3, hend]
  simp [bxV, bxL]
end Go.Proofs.YtldjbbcfbjpfcaaDoor
/- Contracts of the document's stream: a turn; a quarter. -/
namespace Go.Proofs.YtldjbbcfbjpfcaaDoor
set_option maxRecDepth 100000
open Go.RowKit
set_option linter.unusedVariables false
set_option linter.unusedSimpArgs false
/-- words, and what lies behind them in their row -/
def vx (l : List Nat) (rest : List Value) : Array Value := (w32 l ++ rest).toArray
theorem vx_at (l : List Nat) (rest : List Value) (i : Nat) (h : i < l.length) : (vx l rest)[i]? = some (.int .u32 (l.getD i 0 : Nat)) := by
  unfold vx
  rw [List.getElem?_toArray, List.getElem?_append_left (by rw [w32_len]; exact h)]
  have := vw_at l i h
  simpa only [vw, List.getElem?_toArray] using this
theorem vx_set (l : List Nat) (rest : List Value) (i n : Nat) (h : i < l.length) : (vx l rest).setIfInBounds i (.int .u32 (n : Nat)) = vx (l.set i n) rest := by
  unfold vx
  rw [List.setIfInBounds_toArray, List.set_append_left _ _ (by rw [w32_len]; exact h)]
  simp [w32, List.map_set]
end Go.Proofs.YtldjbbcfbjpfcaaDoor
/- The document's block: plain; a word; rows of words of the call's own. -/
namespace Go.Proofs.YtldjbbcfbjpfcaaDoor
set_option maxRecDepth 100000
open Go.RowKit
set_option linter.unusedVariables false
set_option linter.unusedSimpArgs false
theorem wordInfo : (Tryd.prog.info? 22).map (fun i => (i.zero, i.size, i.bytes)) = some (some (.int .u32 0), 1, 4) := by kernel_rfl
def OwnW (w : World) (base : Nat) (v : Value) (l : List Nat) : Prop := w.ownsRow base 22 1 v l.length (w32 l)
theorem OwnW.nil_ (w : World) (base : Nat) : OwnW w base (.slice none 0 0) [] := ⟨rfl, .inl ⟨rfl, rfl⟩⟩
theorem OwnW.rd {w : World} {base : Nat} {v : Value} {l : List Nat} (h : OwnW w base v l) : ∃ A cap, v = .slice A l.length cap ∧ l.length ≤ cap ∧ cap ≤ maxLen ∧ Rd w w.heap.size A (w32 l) := own_rd h
theorem OwnW.alloc {w : World} {base : Nat} {v : Value} {l : List Nat} (h : OwnW w base v l) (o : Obj) : OwnW (w.alloc o) base v l := World.ownsRow.alloc h o
theorem OwnW.drewN {w : World} {base : Nat} {v : Value} {l : List Nat} (h : OwnW w base v l) (n : Nat) : OwnW (w.drewN n) base v l := h
theorem OwnW.snoc {w w' : World} {base : Nat} {v v' : Value} {l : List Nat} {c : Nat} (h : Apped w base 22 1 v w' v' (l.length + 1) (w32 l ++ [.int .u32 (c : Int)])) : OwnW w' base v' (l ++ [c]) := by
  have := h.own
  simpa [OwnW, w32] using this
theorem w32_one (l : List Nat) : ∀ u ∈ w32 l, u.oneCell' = true := by
  intro u hu
  obtain ⟨n, _, rfl⟩ := List.mem_map.1 hu
  rfl
theorem w32_at {l : List Nat} {i : Nat} (h : i < l.length) : (w32 l)[i]? = some (.int .u32 (l.getD i 0 : Nat)) := by
  simp [w32, List.getD_eq_getElem?_getD, h]
theorem Rd.wordAt {w : World} {B : Nat} {A : Option Addr} {l : List Nat} (h : Rd w B A (w32 l)) (hn : 0 < l.length) :
    ∃ ad, A = some ad ∧ ad.block < B ∧ ∀ k, k < l.length → w.cell? (ad.add k) = some (.int .u32 (l.getD k 0 : Nat)) := by
  obtain ⟨ad, e, hb, hc⟩ := h (fun h0 => by have := w32_len l; rw [h0] at this; simp at this; omega)
  exact ⟨ad, e, hb, fun k hk => hc k _ (w32_at hk)⟩
theorem rd_oneW (w : World) (v : Value) : Rd (w.alloc (.cells #[v] 22)) (w.heap.size + 1) (some ⟨w.heap.size, 0, none⟩) [v] := rd_new w [v] _ (0, 0)
theorem OwnW.next {w w' : World} {base : Nat} {v : Value} {l : List Nat} (h : OwnW w base v l) (hb : Below w.heap.size w w') : OwnW w' base v l := own_keep (S := fun _ => False) h (Only.of_below hb) (fun _ _ h => h)
theorem Rd.drop_ {w : World} {B : Nat} {ad : Addr} {l : List Nat} (h : Rd w B (some ad) (byt l)) (k : Nat) : Rd w B (some (ad.add k)) (byt (l.drop k)) := fun hn => by
  have e : byt (l.drop k) = (byt l).drop k := by simp [byt, List.map_drop]
  obtain ⟨a1, e1, hb, hc⟩ := h (fun h0 => hn (by rw [e, h0]; simp))
  injection e1 with e1
  subst e1
  refine ⟨_, rfl, by rw [add_block]; exact hb, fun j u hu => ?_⟩
  rw [Addr.add_add]
  rw [e, List.getElem?_drop] at hu
  exact hc _ u hu
theorem Rd.take_ {w : World} {B : Nat} {A : Option Addr} {l : List Nat} (h : Rd w B A (byt l)) (n : Nat) : Rd w B A (byt (l.take n)) := fun hn => by
  obtain ⟨ad, e, hb, hc⟩ := h (fun h0 => hn (by
    have : l = [] := List.eq_nil_of_length_eq_zero (by rw [← byt_len l, h0]; rfl)
    rw [this]; simp [byt]))
  refine ⟨ad, e, hb, fun j u hu => hc j u ?_⟩
  have e2 : byt (l.take n) = (byt l).take n := by simp [byt, List.map_take]
  rw [e2, List.getElem?_take] at hu
  split at hu
  · exact hu
  · cases hu
def expL : List Nat := [101, 120, 112, 97, 110, 100, 32, 51, 50, 45, 98, 121, 116, 101, 32, 107]
def fullB (k : List Nat) (n : Nat) (nonce : List Nat) : List Nat := ((expL ++ k) ++ form n 4) ++ nonce
theorem fullB_len {k nonce : List Nat} {n : Nat} (hk : k.length = 32) (hc : nonce.length = 12) : (fullB k n nonce).length = 64 := by
  simp only [fullB, List.length_append, hk, hc, form_len]; rfl
theorem fullB_lt {k nonce : List Nat} {n : Nat} (hk : ∀ c ∈ k, c < 256) (hc : ∀ c ∈ nonce, c < 256) : ∀ c ∈ fullB k n nonce, c < 256 := fun c h => by
  rcases List.mem_append.1 h with h | h
  · rcases List.mem_append.1 h with h | h
    · rcases List.mem_append.1 h with h | h
      · exact (show ∀ c ∈ expL, c < 256 by decide) c h
      · exact hk c h
    · exact form_lt _ _ c h
  · exact hc c h
theorem le4_right (a b : List Nat) (j : Nat) (h : a.length ≤ j) : le4 ((a ++ b).drop j) = le4 (b.drop (j - a.length)) := by
  rw [List.drop_append, List.drop_eq_nil_of_le h, List.nil_append]
theorem le4_left (a b : List Nat) (j : Nat) (h : j + 4 ≤ a.length) : le4 ((a ++ b).drop j) = le4 (a.drop j) := by
  unfold le4
  rw [List.drop_append, List.take_append_of_le_length (by rw [List.length_drop]; omega)]
def wordAt (k : List Nat) (n : Nat) (nonce : List Nat) (i : Nat) : Nat := le4 ((fullB k n nonce).drop (4 * i))
theorem words_eq (k : List Nat) (n : Nat) (nonce : List Nat) (hk : k.length = 32) (hn : n < 4294967296) : (List.range 16).map (wordAt k n nonce) = startL k n nonce := by
  have l1 : (expL ++ k).length = 48 := by rw [List.length_append, hk]; rfl
  have l2 : ((expL ++ k) ++ form n 4).length = 52 := by rw [List.length_append, l1, form_len]
  have c0 : ∀ i, i < 4 → wordAt k n nonce i = le4 (expL.drop (4 * i)) := fun i hi => by
    unfold wordAt fullB
    rw [le4_left _ _ _ (by rw [l2]; omega), le4_left _ _ _ (by rw [l1]; omega), le4_left _ _ _ (by show _ ≤ 16; omega)]
  have c1 : ∀ i, 4 ≤ i → i < 12 → wordAt k n nonce i = le4 (k.drop (4 * i - 16)) := fun i h1 hi => by
    unfold wordAt fullB
    rw [le4_left _ _ _ (by rw [l2]; omega), le4_left _ _ _ (by rw [l1]; omega), le4_right _ _ _ (by show 16 ≤ _; omega)]
    rfl
  have c2 : wordAt k n nonce 12 = n := by
    unfold wordAt fullB
    rw [le4_left _ _ _ (by rw [l2]; decide), le4_right _ _ _ (by rw [l1]; decide), l1]
    show number (((form n 4).drop 0).take 4) = n
    rw [List.drop_zero, List.take_of_length_le (by rw [form_len]; decide)]
    exact number_form n 4 hn
  have c3 : ∀ i, 13 ≤ i → i < 16 → wordAt k n nonce i = le4 (nonce.drop (4 * i - 52)) := fun i h1 hi => by
    unfold wordAt fullB
    rw [le4_right _ _ _ (by rw [l2]; omega), l2]
  rw [startL_eq]
  show [wordAt k n nonce 0, wordAt k n nonce 1, wordAt k n nonce 2, wordAt k n nonce 3, wordAt k n nonce 4, wordAt k n nonce 5, wordAt k n nonce 6, wordAt k n nonce 7, wordAt k n nonce 8, wordAt k n nonce 9, wordAt k n nonce 10, wordAt k n nonce 11, wordAt k n nonce 12, wordAt k n nonce 13, wordAt k n nonce 14, wordAt k n nonce 15] = _
  rw [c0 0 (by decide), c0 1 (by decide), c0 2 (by decide), c0 3 (by decide), c1 4 (by decide) (by decide), c1 5 (by decide) (by decide), c1 6 (by decide) (by decide), c1 7 (by decide) (by decide), c1 8 (by decide) (by decide), c1 9 (by decide) (by decide), c1 10 (by decide) (by decide), c1 11 (by decide) (by decide), c2, c3 13 (by decide) (by decide), c3 14 (by decide) (by decide), c3 15 (by decide) (by decide)]
  rfl
theorem out_step (us fr : List Nat) (i : Nat) : (List.range (4 * (i + 1))).map (outB us fr) = (List.range (4 * i)).map (outB us fr) ++ form ((us.getD i 0 + fr.getD i 0) % 4294967296) 4 := by
  have e : ∀ r, r < 4 → outB us fr (4 * i + r) = (us.getD i 0 + fr.getD i 0) % 4294967296 / 256 ^ r % 256 := fun r hr => by
    unfold outB
    rw [show (4 * i + r) / 4 = i by omega, show (4 * i + r) % 4 = r by omega]
  rw [show 4 * (i + 1) = 4 * i + 3 + 1 by omega, List.range_succ, List.range_succ, List.range_succ, List.range_succ]
  simp only [List.map_append, List.map_cons, List.map_nil, List.append_assoc, List.cons_append, List.nil_append]
  rw [show outB us fr (4 * i) = _ from e 0 (by decide), e 1 (by decide), e 2 (by decide), e 3 (by decide)]
  simp only [form, Nat.div_div_eq_div_mul, Nat.pow_zero, Nat.div_one, Nat.reducePow, Nat.reduceMul]
/-- two rows of words of the call's own, apart -/
structure Two (w : World) (base : Nat) (vx vy : Value) (xs ys : List Nat) : Prop where
  ox : OwnW w base vx xs
  oy : OwnW w base vy ys
  ne : ∀ g, vx.ownBlock = some g → vy.ownBlock ≠ some g
theorem Two.next {w w' : World} {base : Nat} {vx vy : Value} {xs ys : List Nat} (h : Two w base vx vy xs ys) (hb : Below w.heap.size w w') : Two w' base vx vy xs ys := ⟨h.ox.next hb, h.oy.next hb, h.ne⟩
theorem Two.symm {w : World} {base : Nat} {vx vy : Value} {xs ys : List Nat} (h : Two w base vx vy xs ys) : Two w base vy vx ys xs := ⟨h.oy, h.ox, fun g h1 h2 => h.ne g h2 h1⟩
theorem Two.app {w w' : World} {base : Nat} {vx vy v' : Value} {xs ys : List Nat} {c : Nat} (h : Two w base vx vy xs ys) (hap : Apped w base 22 1 vx w' v' (xs.length + 1) (w32 xs ++ [.int .u32 (c : Int)])) : Two w' base v' vy (xs ++ [c]) ys :=
  ⟨OwnW.snoc hap, own_keep h.oy (hap.only (S := fun k => vx.ownBlock = some k) (fun g hg => hg)) (fun g hg hs => h.ne g hs hg), fun g h1 h2 => by
    rcases hap.lies with e | e
    · rw [e] at h1; exact h.ne g h1 h2
    · rw [e] at h1
      injection h1 with h1
      have := own_lt h.oy g h2
      omega⟩
theorem OwnW.open_ {w : World} {base : Nat} {v : Value} {l : List Nat} (h : OwnW w base v l) (hne : l ≠ []) : ∃ g cap rest, v = .slice (some ⟨g, 0, none⟩) l.length cap ∧ base ≤ g ∧ Blk w g 22 (vx l rest) ∧ l.length ≤ cap ∧ cap ≤ maxLen ∧ rest.length + l.length = cap := by
  rcases h.2 with ⟨_, h0⟩ | ⟨g, cap, cur, rfl, hb, hh, hn, hm, hc, ht⟩
  · exact absurd (List.eq_nil_of_length_eq_zero h0) hne
  · refine ⟨g, cap, cur.toList.drop l.length, rfl, hb, ?_, hn, hm, ?_⟩
    · rw [Nat.mul_one] at ht
      unfold Blk vx
      rw [hh, ← ht, List.take_append_drop]
    · rw [List.length_drop, Array.length_toList, hc]; omega
end Go.Proofs.YtldjbbcfbjpfcaaDoor
/- Rows whose last place but one is marked; more bytes. -/
namespace Go.Proofs.YtldjbbcfbjpfcaaDoor
set_option maxRecDepth 100000
open Go.RowKit
set_option linter.unusedVariables false
set_option linter.unusedSimpArgs false
/-- a row that a text was turned into: its last place but one is marked -/
def MarkAt (w : World) (g cap : Nat) (s : List Nat) : Prop := ∃ cur : Array Value, w.heap[g]? = some (.cells cur 5 (cur.size, cur.size + 1)) ∧ cur.size = cap ∧ s.length ≤ cap ∧ cap ≤ maxLen ∧ ∀ j, j < s.length → cur[j]? = some (.int .u8 (s.getD j 0 : Nat))
theorem MarkAt.next {w w' : World} {g cap : Nat} {s : List Nat} (h : MarkAt w g cap s) (hb : Below w.heap.size w w') : MarkAt w' g cap s := by
  obtain ⟨cur, hg, r⟩ := h
  refine ⟨cur, ?_, r⟩
  have hlt : g < w.heap.size := (Array.getElem?_eq_some_iff.1 hg).1
  rw [hb.block g hlt]; exact hg
theorem setCells_row (g : Nat) (t : TypeId) (fr : Nat × Nat) : ∀ (vs : List Value) (o : Nat) (w : World) (cur : Array Value), w.heap[g]? = some (.cells cur t fr) → o + vs.length ≤ cur.size →
    ∃ cur', (w.setCells g o vs).heap[g]? = some (.cells cur' t fr) ∧ cur'.size = cur.size ∧ (∀ j, j < o → cur'[j]? = cur[j]?) ∧ ∀ j, j < vs.length → cur'[o + j]? = vs[j]?
  | [], o, w, cur, hg, _ => ⟨cur, hg, rfl, fun _ _ => rfl, fun j hj => by cases hj⟩
  | v :: r, o, w, cur, hg, hl => by
    simp only [List.length_cons] at hl
    have h1 : (w.setCell ⟨g, o, none⟩ v).heap[g]? = some (.cells (cur.setIfInBounds o v) t fr) := by
      rw [setCell_eq_setRow w g o cur t fr v hg]
      exact setRow_heap w g _ _ t _ hg
    obtain ⟨cur', a, b, c, d⟩ := setCells_row g t fr r (o + 1) (w.setCell ⟨g, o, none⟩ v) (cur.setIfInBounds o v) h1 (by rw [Array.size_setIfInBounds]; omega)
    refine ⟨cur', a, by rw [b, Array.size_setIfInBounds], fun j hj => ?_, fun j hj => ?_⟩
    · rw [c j (by omega), Array.getElem?_setIfInBounds_ne (by omega)]
    · cases j with
      | zero =>
        rw [Nat.add_zero, c o (by omega), Array.getElem?_setIfInBounds_self_of_lt (by omega)]
        rfl
      | succ j =>
        have := d j (by simp only [List.length_cons] at hj; omega)
        rw [show o + (j + 1) = o + 1 + j by omega, this]
        rfl
theorem below_setCells (B g : Nat) (hB : B ≤ g) : ∀ (vs : List Value) (o : Nat) (a w : World), Below B a w → Below B a (w.setCells g o vs)
  | [], _, _, _, h => h
  | v :: r, o, a, w, h => below_setCells B g hB r (o + 1) a _ (h.setCell hB v)
theorem only_below {S : Nat → Prop} {w w' : World} (h : Below w.heap.size w w') : Only S w w' := ⟨h.os, h.tape, h.output, h.size, fun k hk _ => h.block k hk⟩
theorem only_setCells (g : Nat) : ∀ (vs : List Value) (o : Nat) (a w : World), Only (fun k => g = k) a w → Only (fun k => g = k) a (w.setCells g o vs)
  | [], _, _, _, h => h
  | v :: r, o, a, w, h => by
    refine only_setCells g r (o + 1) a _ ⟨h.os, h.tape, h.output, by simpa [World.setCell] using h.size, fun k hk hne => ?_⟩
    rw [← h.block k hk hne]
    exact Below.heap_setCell _ _ _ _ (fun e => hne e.symm)
/-- bytes of a text's row, or of the call's own -/
def MarkOwn (w : World) (B : Nat) (v : Value) (l : List Nat) : Prop := (∃ g cap, v = .slice (some ⟨g, 0, none⟩) l.length cap ∧ B ≤ g ∧ MarkAt w g cap l) ∨ OwnB w B v l
theorem MarkOwn.next {w w' : World} {B : Nat} {v : Value} {l : List Nat} (h : MarkOwn w B v l) (hb : Below w.heap.size w w') : MarkOwn w' B v l := by
  rcases h with ⟨g, cap, e, hB, h⟩ | h
  · exact .inl ⟨g, cap, e, hB, h.next hb⟩
  · exact .inr (h.next hb)
theorem MarkOwn.rd {w : World} {B : Nat} {v : Value} {l : List Nat} (h : MarkOwn w B v l) : ∃ A cap, v = .slice A l.length cap ∧ Rd w w.heap.size A (byt l) := by
  rcases h with ⟨g, cap, rfl, hB, cur, hg, hcs, hle, hmx, hcur⟩ | h
  · have hlt : g < w.heap.size := (Array.getElem?_eq_some_iff.1 hg).1
    refine ⟨_, _, rfl, fun _ => ⟨_, rfl, hlt, fun j u hu => ?_⟩⟩
    have hj : j < l.length := by
      rcases Nat.lt_or_ge j l.length with h1 | h1
      · exact h1
      · rw [List.getElem?_eq_none (by rw [byt_len]; exact h1)] at hu; cases hu
    rw [Addr.add_mid, Nat.zero_add]
    simp only [World.cell?, hg]
    rw [hcur j hj, ← hu, byt_at hj]
    rfl
  · obtain ⟨A, cap, e, _, _, hr⟩ := h.rd
    exact ⟨A, cap, e, hr⟩
theorem MarkOwn.lt {w : World} {B : Nat} {v : Value} {l : List Nat} (h : MarkOwn w B v l) : ∀ g, v.ownBlock = some g → g < w.heap.size := by
  rcases h with ⟨g, cap, rfl, hB, cur, hg, _⟩ | h
  · intro g' hg'
    injection hg' with hg'
    subst hg'
    exact (Array.getElem?_eq_some_iff.1 hg).1
  · exact own_lt h
theorem app_marks (w : World) (B : Nat) (v : Value) (s m : List Nat) (ty : TypeId) (A : Option Addr) (ca : Nat) (Bs : Nat) (hm : MarkOwn w B v s) (hBw : B ≤ w.heap.size) (hs : s.length ≤ 10000) (hmn : m.length ≤ 10000) (hne : m ≠ []) (hr : Rd w Bs A (byt m)) :
    ∃ v' w', (Builtin.append_ #[25, 25] ty #[v, .slice A m.length ca]).run Tryd.prog w = .ok v' w' ∧ MarkOwn w' B v' (s ++ m) ∧ Below B w w' ∧ Only (fun k => v.ownBlock = some k) w w' := by
  obtain ⟨i0, hi, hz0, hz1, hz2⟩ := info_parts byteInfo
  rcases hm with ⟨g, cap, rfl, hB, hm⟩ | ho
  · obtain ⟨ad, rfl, _, hc⟩ := hr (by intro h0; have := congrArg List.length h0; rw [byt_len] at this; exact hne (List.eq_nil_of_length_eq_zero this))
    obtain ⟨cur, hg, hcs, hle, hmx, hcur⟩ := hm
    have hlt : g < w.heap.size := (Array.getElem?_eq_some_iff.1 hg).1
    have hcell : ∀ j, j < s.length → w.cell? ⟨g, j, none⟩ = some (.int .u8 (s.getD j 0 : Nat)) := fun j hj => by
      simp only [World.cell?, hg]
      exact hcur j hj
    by_cases hroom : s.length + m.length ≤ cap
    · have hf := run_firstCells_some (P := Tryd.prog) w i0.size m.length ad m.length ca (byt m) (by rw [hz1, byt_len, Nat.mul_one]) hc
      have hst := run_storeCells_cells (P := Tryd.prog) g s.length (byt m) 0 w (fun j hj => by
        rw [byt_len] at hj
        simp only [World.cell?, hg, Nat.add_zero]
        rw [Array.getElem?_eq_getElem (by omega)]
        rfl) (fun j hj => by
        rw [byt_len] at hj
        simp [World.frozen?, hg]
        omega) (byt_one m)
      rw [Nat.add_zero] at hst
      rw [hz1] at hf
      obtain ⟨cur', ha, hb, hcc, hd⟩ := setCells_row g 5 _ (byt m) s.length w cur hg (by rw [byt_len]; omega)
      refine ⟨.slice (some ⟨g, 0, none⟩) (s.length + m.length) cap, w.setCells g s.length (byt m), ?_, .inl ⟨g, cap, by rw [List.length_append], hB, cur', by rw [ha, hb], by rw [hb, hcs], by rw [List.length_append]; exact hroom, hmx, fun j hj => ?_⟩, below_setCells B g hB _ _ _ _ (Below.refl _ _), ?_⟩
      · simp [Builtin.append_, run_underlying Tryd.underlying25, sizeOf, typeInfo, hi, Builtin.lenOf, hroom, hf, Addr.add_lit, hst, hz1]
      · rw [List.length_append] at hj
        rcases Nat.lt_or_ge j s.length with h1 | h1
        · rw [hcc j h1, hcur j h1]
          rw [List.getD_eq_getElem?_getD, List.getD_eq_getElem?_getD, List.getElem?_append_left h1]
        · obtain ⟨i, rfl⟩ : ∃ i, j = s.length + i := ⟨j - s.length, by omega⟩
          rw [hd i (by rw [byt_len]; omega), byt_at (by omega)]
          rw [List.getD_eq_getElem?_getD, List.getD_eq_getElem?_getD, List.getElem?_append_right (by omega), Nat.add_sub_cancel_left]
      · have h1 := only_setCells g (byt m) s.length w w ⟨rfl, rfl, rfl, Nat.le_refl _, fun _ _ _ => rfl⟩
        exact ⟨h1.os, h1.tape, h1.output, h1.size, fun k hk hne => h1.block k hk (fun e => hne (by rw [← e]; rfl))⟩
    · have h1 := run_append_grow (P := Tryd.prog) w 25 ty 5 i0 _ Tryd.underlying25 hi hz0 ⟨g, 0, none⟩ s.length cap (byt s) (by rw [hz1, byt_len, Nat.mul_one]) (fun j v hv => by
          have hj : j < s.length := by
            rcases Nat.lt_or_ge j s.length with h1 | h1
            · exact h1
            · rw [List.getElem?_eq_none (by rw [byt_len]; exact h1)] at hv; cases hv
          rw [Addr.add_mid, Nat.zero_add, hcell j hj, ← hv, byt_at hj]) ad m.length ca (byt m) (by rw [hz1, byt_len, Nat.mul_one]) hc (by omega) (by omega) (growslice_fits (by omega) (by rw [hz2]; omega))
      have hge := grownCap_ge w (s.length + m.length) cap 5
      have hgm := grownCap_le_maxLen w (s.length + m.length) cap 5 (by simp [maxLen]; omega)
      refine ⟨_, _, h1, .inr ⟨by rw [byt_len, Nat.mul_one], .inr ⟨w.heap.size, grownCap w (s.length + m.length) cap 5, _, by rw [List.length_append], hBw, (Blk.new w.drew 5 _), by rw [List.length_append]; exact hge, hgm, ?_, ?_⟩⟩, (Below.refl _ _).drew.alloc (Nat.le_trans hB (Nat.le_of_lt hlt)) _, ?_⟩
      · rw [Array.size_append, Array.size_append, List.size_toArray, List.size_toArray, byt_len, byt_len]
        simp [Builtin.zeroCells, Value.cells]
        omega
      · rw [Nat.mul_one, Array.toList_append, Array.toList_append, List.toList_toArray, List.toList_toArray, List.length_append, List.take_append_of_le_length (by simp [byt]), byt_app, List.take_of_length_le (by simp [byt])]
      · exact only_below ((Below.refl _ _).drew.alloc (Nat.le_refl _) _)
  · obtain ⟨v', w', hrun, hap⟩ := run_app (P := Tryd.prog) w B 25 ty 5 i0 (.int .u8 0) 1 1 Tryd.underlying25 hi hz0 hz1 hz2 rfl (by decide) v s.length (byt s) ho Bs A m.length ca (byt m) (by rw [byt_len, Nat.mul_one]) hr (byt_one m) (by omega) (by omega) hBw
    exact ⟨v', w', hrun, .inr (OwnB.app hap), hap.below ho hBw, hap.only (fun g h => h)⟩
theorem op_appendM {o : Oper} {a : Act} {w w' : World} {t : TypeId} {s x : Operand} {v u r : Value} (ho : o.op = .call { callee := .builtin .append, args := #[s, x], argTypes := #[t, t] }) (hs : a.eval s = v) (hx : a.eval x = u) (hrun : (Builtin.append_ #[t, t] o.type #[v, u]).run Tryd.prog w = .ok r w') : (execOp a.eval o).run Tryd.prog w = .ok (.value r) w' := by
  unfold execOp
  simp only [ho, resolve, invoke, builtin, Sem.run_bind, Sem.run_pure, Result.andThen_ok, List.map_toArray, List.map_cons, List.map_nil, hs, hx, hrun]
end Go.Proofs.YtldjbbcfbjpfcaaDoor
/- Contract: the document's block. -/
namespace Go.Proofs.YtldjbbcfbjpfcaaDoor
set_option maxRecDepth 100000
open Go.RowKit
set_option linter.unusedVariables false
set_option linter.unusedSimpArgs false
/-- the boxes of the two arrays -/
structure Rbx (w W : World) (k nonce : List Nat) : Prop where
  bel : Below w.heap.size w W
  kA : Blk W w.heap.size 41 (vb k)
  nA : Blk W (w.heap.size + 1) 23 (vb nonce)
  sz : w.heap.size + 1 + 1 ≤ W.heap.size
theorem Rbx.next {w W W' : World} {k nonce : List Nat} (s : Rbx w W k nonce) (hb : Below (w.heap.size + 1 + 1) W W') : Rbx w W' k nonce :=
  ⟨s.bel.trans (hb.mono (by omega)), s.kA.below hb (by omega), s.nA.below hb (by omega), Nat.le_trans s.sz hb.size⟩
theorem Rbx.begin (w : World) (k nonce : List Nat) (o : Obj) : Rbx w (((w.alloc (Obj.cells (vb k) 41)).alloc (Obj.cells (vb nonce) 23)).alloc o) k nonce :=
  ⟨(((Below.refl _ _).alloc (Nat.le_refl _) _).alloc (by simp) _).alloc (by simp; omega) _, ((Blk.new w _ _).alloc _).alloc _, (show Blk _ (w.heap.size + 1) _ _ from heap2 w _ _).alloc _, by simp⟩
theorem Two.alloc {w : World} {base : Nat} {vx vy : Value} {xs ys : List Nat} (h : Two w base vx vy xs ys) (o : Obj) : Two (w.alloc o) base vx vy xs ys := ⟨h.ox.alloc o, h.oy.alloc o, h.ne⟩
theorem Two.nil_ (w : World) (base : Nat) : Two w base (.slice none 0 0) (.slice none 0 0) [] [] := ⟨OwnW.nil_ _ _, OwnW.nil_ _ _, fun g h => by cases h⟩
theorem rd_all {w : World} {g : Nat} {T : TypeId} {l : List Nat} (h : Blk w g T (vb l)) : Rd w (g + 1) (some ⟨g, 0, none⟩) (byt l) := by
  have := blk_rdAt h 0
  rwa [List.drop_zero] at this
def eC : Array Value := #[.int .u8 101, .int .u8 120, .int .u8 112, .int .u8 97, .int .u8 110, .int .u8 100, .int .u8 32, .int .u8 51, .int .u8 50, .int .u8 45, .int .u8 98, .int .u8 121, .int .u8 116, .int .u8 101, .int .u8 32, .int .u8 107]
theorem conv_lit (w : World) (a b : Obj) : (convert 25 25 (.slice (some ⟨w.heap.size + 1 + 1, 0, none⟩) 16 16)).run Tryd.prog (((w.alloc a).alloc b).alloc (.cells eC 5)) = .ok (.slice (some ⟨w.heap.size + 1 + 1, 0, none⟩) 16 16) (((w.alloc a).alloc b).alloc (.cells eC 5 (16, 17))) := by
  have h := Lib.run_convert_bytes_const (P := Tryd.prog) ((w.alloc a).alloc b) 25 5 eC 16 16 Tryd.underlying25 Tryd.underlying5
  rw [show ((w.alloc a).alloc b).heap.size = w.heap.size + 1 + 1 by simp] at h
  exact h
theorem mark_lit (w : World) (a b : Obj) : MarkAt (((w.alloc a).alloc b).alloc (.cells eC 5 (16, 17))) (w.heap.size + 1 + 1) 16 expL :=
  ⟨eC, heap3 w _ _ _, rfl, Nat.le_refl _, by decide, fun j hj => (show ∀ j, j < 16 → eC[j]? = some (.int .u8 (expL.getD j 0 : Nat)) from fun j hj => by
    have h : j = 0 ∨ j = 1 ∨ j = 2 ∨ j = 3 ∨ j = 4 ∨ j = 5 ∨ j = 6 ∨ j = 7 ∨ j = 8 ∨ j = 9 ∨ j = 10 ∨ j = 11 ∨ j = 12 ∨ j = 13 ∨ j = 14 ∨ j = 15 := by omega
    rcases h with rfl | rfl | rfl | rfl | rfl | rfl | rfl | rfl | rfl | rfl | rfl | rfl | rfl | rfl | rfl | rfl <;> rfl) j hj⟩
theorem col_eq : ∀ j, j < 4 → qs.getD j [] = [j, 4 + j, 8 + j, 12 + j] := by decide
theorem diag_eq : ∀ j, j < 4 → qs.getD (4 + j) [] = [j, 4 + (j + 1) % 4, 8 + (j + 2) % 4, 12 + (j + 3) % 4] := by decide
end Go.Proofs.YtldjbbcfbjpfcaaDoor
/- Merged: Ca7 Ca8. -/
namespace Go.Proofs.YtldjbbcfbjpfcaaDoor
set_option maxRecDepth 100000
open Go.RowKit
set_option linter.unusedVariables false
set_option linter.unusedSimpArgs false
set_option maxRecDepth 100000 in
set_option maxHeartbeats 8000000 in
theorem block_c (k : List Nat) (n : Nat) (nonce : List Nat) (w : World) (hk : k.length = 32) (hkl : ∀ c ∈ k, c < 256) (hn : n < 4294967296) (hc : nonce.length = 12) (hcl : ∀ c ∈ nonce, c < 256) (hq : QuartersAt w) :
    Calls Tryd.prog 41 #[.agg (vb k), .int .u32 n, .agg (vb nonce)] w fun e w' => e = .returned (.agg (vb (blkL k n nonce))) ∧ Below w.heap.size w w' := by
  have zf := zero_16
  have zs1 : z16w.size = 16 := by rfl
  have zs2 : ¬ z16w = #[] := by intro h; have := congrArg Array.size h; rw [zs1] at this; cases this
  have zg := zero_64b
  have zt1 : (vb z64).size = 64 := by rfl
  have zt2 : ¬ vb z64 = #[] := by intro h; have := congrArg Array.size h; rw [zt1] at this; cases this
  have HQ := Lib.hid hq
  have HST := Lib.hid (fun W => start_c k n nonce W hk hkl hn hc hcl)
  have H16 := Lib.hid (startL_16 hkl hn hcl)
  have HBK := Lib.hid (show blkL k n nonce = (List.range 64).map (outB (rnds (startL k n nonce) 10) (startL k n nonce)) from rfl)
  have HIK := Lib.hid (show (Tryd.prog.info? 42).map (·.size) = some (vb k).size by rw [show (vb k).size = k.length by simp [vb, byt], hk]; kernel_rfl)
  have HIN := Lib.hid (show (Tryd.prog.info? 24).map (·.size) = some (vb nonce).size by rw [show (vb nonce).size = nonce.length by simp [vb, byt], hc]; kernel_rfl)
  have HIH := Lib.hid (show ∀ us : List Nat, us.length = 16 → (Tryd.prog.info? 97).map (·.size) = some (vw us).size from fun us h => by rw [vw_size, h]; kernel_rfl)
  have HZH := Lib.hid (show ∀ us : List Nat, us.length = 16 → z16w.size = (vw us).size from fun us h => by rw [vw_size, h]; rfl)
  clear hkl hcl hq
  generalize startL k n nonce = fr at *
  go_enter Tryd.func41, Tryd.ntmps41
  go_upto_region 1 with (first
    | (refine Go.Great.wpList_boxTo rfl 42 (.tmp 0) rfl (some 3) rfl w.heap.size rfl (vb k) rfl ?_)
    | (refine Go.Great.wpList_boxTo rfl 24 (.tmp 2) rfl (some 5) rfl (w.heap.size + 1) (by simp) (vb nonce) rfl ?_))
  obtain ⟨Z, hZ⟩ : ∃ Z, Z = ((w.alloc (Obj.cells (vb k) 42)).alloc (Obj.cells (vb nonce) 24)).alloc (Obj.cells (vb z64) 87) := ⟨_, rfl⟩
  have BK := Lib.hid (show Blk Z w.heap.size 42 (vb k) by rw [hZ]; exact ((Blk.new w _ _).alloc _).alloc _)
  have BN := Lib.hid (show Blk Z (w.heap.size + 1) 24 (vb nonce) by rw [hZ]; exact (show Blk _ (w.heap.size + 1) _ _ from heap2 w _ _).alloc _)
  have BR := Lib.hid (show Blk Z (w.heap.size + 1 + 1) 87 (vb z64) by rw [hZ]; exact heap3 w _ _ _)
  have BZ := Lib.hid (show Below w.heap.size w Z by rw [hZ]; exact (((Below.refl _ _).alloc (Nat.le_refl _) _).alloc (by simp) _).alloc (by simp; omega) _)
  rw [← hZ]
  clear hZ
  go_upto_region 2 with (first
    | (refine wpList_load_row rfl 42 (.tmp 3) rfl w.heap.size rfl 42 (vb k) (0, 0) _ BK.out Tryd.underlying42 rfl HIK.out ?_)
    | (refine wpList_load_row rfl 24 (.tmp 5) rfl (w.heap.size + 1) rfl 24 (vb nonce) (0, 0) _ BN.out Tryd.underlying24 rfl HIN.out ?_)
    | (go_at_call 50; (refine (HST.out _).mono ?_); rintro e W1 ⟨rfl, hb⟩; have HB1 := Lib.hid hb; clear hb)
    | (refine wpList_store_rowTo rfl 97 (.tmp 7) (.tmp 16) rfl rfl W1.heap.size (vw fr) rfl rfl 97 z16w (by exact Blk.new W1 _ _) (HIH.out fr H16.out.len) (HZH.out fr H16.out.len) (vw_one _) ?_))
  obtain ⟨X, hX⟩ : ∃ X, X = (W1.alloc (Obj.cells z16w 97)).setRow W1.heap.size (vw fr) := ⟨_, rfl⟩
  have hnr := new_row W1 97 z16w (vw fr)
  rw [← hX] at hnr ⊢
  have BF := Lib.hid hnr.1
  have BX := Lib.hid (BZ.out.trans ((HB1.out.trans (hnr.2.mono HB1.out.size)).mono BZ.out.size))
  have BR2 := Lib.hid ((BR.out.below HB1.out BR.out.lt).below hnr.2 (BR.out.below HB1.out BR.out.lt).lt)
  have hg : w.heap.size + 1 + 1 < W1.heap.size := Nat.lt_of_lt_of_le BR.out.lt HB1.out.size
  clear hX hnr BK BN BR BZ HB1
  obtain ⟨gR, hgR⟩ : ∃ g, g = w.heap.size + 1 + 1 := ⟨_, rfl⟩
  have hr0 : w.heap.size ≤ gR := by omega
  rw [← hgR] at hg BR2 ⊢
  generalize W1.heap.size = gF at *
  go_upto_region 3 with (first
    | (refine wpList_load_row rfl 97 (.tmp 7) rfl gF rfl 97 (vw fr) (0, 0) _ BF.out Tryd.underlying97 rfl (HIH.out fr H16.out.len) ?_)
    | (refine wpList_store_rowTo rfl 97 (.tmp 8) (.tmp 17) rfl rfl X.heap.size (vw fr) rfl rfl 97 z16w (by exact Blk.new X _ _) (HIH.out fr H16.out.len) (HZH.out fr H16.out.len) (vw_one _) ?_))
  obtain ⟨Y, hY⟩ : ∃ Y, Y = (X.alloc (Obj.cells z16w 97)).setRow X.heap.size (vw fr) := ⟨_, rfl⟩
  have hnr := new_row X 97 z16w (vw fr)
  rw [← hY] at hnr ⊢
  have HS := Lib.hid (show Bst w Y gR gF X.heap.size fr (rnds fr 0) from ⟨BX.out.trans (hnr.2.mono BX.out.size), BR2.out.below hnr.2 BR2.out.lt, BF.out.below hnr.2 BF.out.lt, hnr.1, by have := BR2.out.lt; omega, by have := BF.out.lt; omega, BX.out.size⟩)
  have hgFR : gR ≠ gF := by omega
  clear hY hnr BX BR2 BF hg
  generalize X.heap.size = gW at *
  clear X
  go_wp2_with fail
  have zh := zero_4
  have zu1 : z4.size = 4 := by rfl
  have zu2 : ¬ z4 = #[] := by intro h; have := congrArg Array.size h; rw [zu1] at this; cases this
  go_loopw [18] (fun i wr => ∃ m : Nat, m ≤ 10 ∧ i = .int .i64 m ∧ Bst w wr gR gF gW fr (rnds fr m)) (fun i _ => 10 - (intOf i).toNat)
  case atStart => exact ⟨0, by omega, rfl, HS.out⟩
  case round =>
    rename World => wr
    obtain ⟨m, hm, rfl, hs⟩ := hrel
    have HT := Lib.hid hs
    clear hs HS
    by_cases hlt : m < 10
    · have p1 : (m : Int) < 10 := by omega
      have HQR := Lib.hid (HT.out.quarters HQ.out).1
      have HNX := Lib.hid (show rnds fr (m + 1) = qrt (rnds fr m) 8 from rfl)
      have HW := Lib.hid (H16.out.rnds m)
      generalize rnds fr m = us at *
      go_wp2_with (refine wpList_loadG (by kernel_rfl) 100 (.global 0) rfl 0 0 rfl qcells.toList _ HQR.out Tryd.underlying100 rfl qcells_info ?_; rw [qcells_arr])
      go_loopw [21] (fun i wr => ∃ j : Nat, j ≤ 8 ∧ i = .int .i64 j ∧ Bst w wr gR gF gW fr (qrt us j)) (fun i _ => 8 - (intOf i).toNat)
      case atStart => exact ⟨0, by omega, rfl, HT.out⟩
      case round =>
        rename World => wr
        obtain ⟨j, hj, rfl, hs⟩ := hrel
        have HT := Lib.hid hs
        clear hs
        by_cases hlt : j < 8
        · have p2 : (j : Int) < 8 := by omega
          have hidx := run_index_q j hlt
          have HQL := Lib.hid (qs_len j hlt)
          have HNQ := Lib.hid (show qrt us (j + 1) = qtrL (qrt us j) (qs.getD j []) from rfl)
          have HQC := Lib.hid (fun W (hB : Blk W gW 97 (vw (qrt us j))) => quarter_c gW (qs.getD j []) (qrt us j) W (qs_len j hlt) (qs_lt j hlt) (HW.out.qrt j (by omega)) hB)
          generalize qs.getD j [] = q at *
          generalize qrt us j = vs at *
          have hnr := new_row wr 99 z4 (pV q)
          have HS2 := Lib.hid (HT.out.next hnr.2)
          have HQB := Lib.hid hnr.1
          clear hnr
          go_upto_region 8 with (first
            | (refine wpList_store_rowTo rfl 99 (.tmp 10) (.tmp 23) rfl rfl wr.heap.size (pV q) rfl rfl 99 z4 (by exact Blk.new wr _ _) (pV_info q HQL.out) (pV_z4 q HQL.out) (pV_one _) ?_))
          obtain ⟨X, hX⟩ : ∃ X, X = (wr.alloc (Obj.cells z4 99)).setRow wr.heap.size (pV q) := ⟨_, rfl⟩
          rw [← hX] at HS2 HQB ⊢
          clear hX
          generalize wr.heap.size = gQ at *
          go_wp2_with (first
            | (refine wpList_load_row rfl 99 (.tmp 10) rfl gQ rfl 99 (pV q) (0, 0) _ HQB.out Tryd.underlying99 rfl (pV_info q HQL.out) ?_)
            | (go_at_call 51; (refine (HQC.out _ HS2.out.wA).mono ?_); rintro e W2 ⟨rfl, hv, hgr⟩; have HS3 := Lib.hid (HS2.out.grown hgr hv); clear hv hgr))
          exact ⟨⟨j + 1, by omega, by go_num, by rw [HNQ.out]; exact HS3.out⟩, by simp only [intOf]; omega⟩
        · obtain rfl : j = 8 := by omega
          go_wp2_with fail
          exact ⟨⟨m + 1, by omega, by go_num, by rw [HNX.out]; exact HT.out⟩, by simp only [intOf]; omega⟩
    · obtain rfl : m = 10 := by omega
      rw [show ((10 : Nat) : Int) = 10 from rfl]
      have HW := Lib.hid (H16.out.rnds 10)
      generalize rnds fr 10 = us at *
      clear zh zu1 zu2 HQ
      go_upto_region 12 with fail
      have HO := Lib.hid HT.out.out
      clear HT
      generalize wr.alloc (Obj.cells (vb z64) 87) = Y at *
      generalize wr.heap.size = gO at *
      clear zg zt1 zt2 zf zs1 zs2
      go_wp2_with fail
      go_loopw [12, 28] (fun u i wr => ∃ m : Nat, m ≤ 64 ∧ i = .int .i64 m ∧ Bo w wr gR gF gW gO fr us (mapZ (outB us fr) 64 m)) (fun _ i _ => 64 - (intOf i).toNat)
      case atStart => exact ⟨0, by omega, rfl, HO.out⟩
      case round =>
        rename World => wr
        obtain ⟨m, hm, rfl, hs⟩ := hrel
        have HT := Lib.hid hs
        clear hs HO
        by_cases hlt : m < 64
        · have p1 : (m : Int) < 64 := by omega
          obtain ⟨q, hq⟩ : ∃ q, q = m / 4 := ⟨_, rfl⟩
          have e4 : (m : Int) / 4 = (q : Int) := by omega
          have p2 : (q : Int) < 16 := by omega
          have d0 := (HT.out.st.wA.cell q).trans (vw_at us q (by rw [HW.out.len]; omega))
          have d1 := (HT.out.st.fA.cell q).trans (vw_at fr q (by rw [H16.out.len]; omega))
          have d2 := (HT.out.oA.cell m).trans (vb_at _ m (by rw [mapZ_len _ _ _ hm]; exact hlt))
          have e2 := HT.out.oA.free m
          have x0 := HW.out.lt q
          have x1 := H16.out.lt q
          have HST := Lib.hid (mapZ_set (outB us fr) 64 m hlt)
          have HSS := Lib.hid (fun c : Nat => HT.out.set m c)
          have hob : outB us fr m = (us.getD q 0 + fr.getD q 0) % 4294967296 / 256 ^ (m % 4) % 256 := by rw [hq]; rfl
          obtain ⟨s, hs⟩ : ∃ s, s = (us.getD q 0 + fr.getD q 0) % 4294967296 := ⟨_, rfl⟩
          have f0 : IntKind.u32.wrap (((us.getD q 0 : Nat) : Int) + ((fr.getD q 0 : Nat) : Int)) = (s : Int) := by rw [wrap32]; omega
          rw [← hs] at hob
          have cu : IntKind.u64.wrap (m : Int) = (m : Int) := by simp [IntKind.wrap, IntKind.signed, IntKind.bits]; omega
          clear hs
          generalize us.getD q 0 = a at *
          generalize fr.getD q 0 = b at *
          have h4 : m % 4 = 0 ∨ m % 4 = 1 ∨ m % 4 = 2 ∨ m % 4 = 3 := by omega
          rcases h4 with h4 | h4 | h4 | h4
          · have ba : bits BinOp.and .u64 (m : Int) 3 = 0 := by
              rw [show (3 : Int) = ((3 : Nat) : Int) from rfl, u64_and_nat _ _ (by omega) (by omega), show m &&& 3 = m % 4 from Nat.and_two_pow_sub_one_eq_mod m 2, h4]; try rfl
            obtain ⟨c, hc⟩ : ∃ c, c = s / 1 % 256 := ⟨_, rfl⟩
            obtain ⟨x, hx⟩ : ∃ x, x = s / 1 := ⟨_, rfl⟩
            have f1 : (s : Int) / 1 = (x : Int) := by omega
            have f2 : IntKind.u8.wrap (x : Int) = (c : Int) := by rw [show IntKind.u8.wrap (x : Int) = (x : Int) % 256 by simp [IntKind.wrap, IntKind.signed, IntKind.bits]]; omega
            have f3 : (x : Int) % 256 = (c : Int) := by omega
            have f4 : IntKind.u8.wrap (s : Int) = (c : Int) := by rw [show IntKind.u8.wrap (s : Int) = (s : Int) % 256 by simp [IntKind.wrap, IntKind.signed, IntKind.bits]]; omega
            have f5 : (s : Int) % 256 = (c : Int) := by omega
            have HOB := Lib.hid (show outB us fr m = c by rw [hob, h4, hc])
            clear hc hx hq h4 hob
            go_wp2_with fail
            go_still_tail 17, (by kernel_rfl)
            go_wp2_with fail
            have HS3 := Lib.hid (HSS.out c)
            go_roundw
            case rel => exact ⟨m + 1, by omega, by go_num, by rw [← HST.out, HOB.out]; exact HS3.out⟩
            case measure => simp only [intOf]; omega
          · have ba : bits BinOp.and .u64 (m : Int) 3 = 1 := by
              rw [show (3 : Int) = ((3 : Nat) : Int) from rfl, u64_and_nat _ _ (by omega) (by omega), show m &&& 3 = m % 4 from Nat.and_two_pow_sub_one_eq_mod m 2, h4]; try rfl
            obtain ⟨c, hc⟩ : ∃ c, c = s / 256 % 256 := ⟨_, rfl⟩
            obtain ⟨x, hx⟩ : ∃ x, x = s / 256 := ⟨_, rfl⟩
            have f1 : (s : Int) / 256 = (x : Int) := by omega
            have f2 : IntKind.u8.wrap (x : Int) = (c : Int) := by rw [show IntKind.u8.wrap (x : Int) = (x : Int) % 256 by simp [IntKind.wrap, IntKind.signed, IntKind.bits]]; omega
            have f3 : (x : Int) % 256 = (c : Int) := by omega
            skip
            skip
            have HOB := Lib.hid (show outB us fr m = c by rw [hob, h4, hc])
            clear hc hx hq h4 hob
            go_wp2_with fail
            go_still_tail 17, (by kernel_rfl)
            go_wp2_with fail
            have HS3 := Lib.hid (HSS.out c)
            go_roundw
            case rel => exact ⟨m + 1, by omega, by go_num, by rw [← HST.out, HOB.out]; exact HS3.out⟩
            case measure => simp only [intOf]; omega
          · have ba : bits BinOp.and .u64 (m : Int) 3 = 2 := by
              rw [show (3 : Int) = ((3 : Nat) : Int) from rfl, u64_and_nat _ _ (by omega) (by omega), show m &&& 3 = m % 4 from Nat.and_two_pow_sub_one_eq_mod m 2, h4]; try rfl
            obtain ⟨c, hc⟩ : ∃ c, c = s / 65536 % 256 := ⟨_, rfl⟩
            obtain ⟨x, hx⟩ : ∃ x, x = s / 65536 := ⟨_, rfl⟩
            have f1 : (s : Int) / 65536 = (x : Int) := by omega
            have f2 : IntKind.u8.wrap (x : Int) = (c : Int) := by rw [show IntKind.u8.wrap (x : Int) = (x : Int) % 256 by simp [IntKind.wrap, IntKind.signed, IntKind.bits]]; omega
            have f3 : (x : Int) % 256 = (c : Int) := by omega
            skip
            skip
            have HOB := Lib.hid (show outB us fr m = c by rw [hob, h4, hc])
            clear hc hx hq h4 hob
            go_wp2_with fail
            go_still_tail 17, (by kernel_rfl)
            go_wp2_with fail
            have HS3 := Lib.hid (HSS.out c)
            go_roundw
            case rel => exact ⟨m + 1, by omega, by go_num, by rw [← HST.out, HOB.out]; exact HS3.out⟩
            case measure => simp only [intOf]; omega
          · have ba : bits BinOp.and .u64 (m : Int) 3 = 3 := by
              rw [show (3 : Int) = ((3 : Nat) : Int) from rfl, u64_and_nat _ _ (by omega) (by omega), show m &&& 3 = m % 4 from Nat.and_two_pow_sub_one_eq_mod m 2, h4]; try rfl
            obtain ⟨c, hc⟩ : ∃ c, c = s / 16777216 % 256 := ⟨_, rfl⟩
            obtain ⟨x, hx⟩ : ∃ x, x = s / 16777216 := ⟨_, rfl⟩
            have f1 : (s : Int) / 16777216 = (x : Int) := by omega
            have f2 : IntKind.u8.wrap (x : Int) = (c : Int) := by rw [show IntKind.u8.wrap (x : Int) = (x : Int) % 256 by simp [IntKind.wrap, IntKind.signed, IntKind.bits]]; omega
            have f3 : (x : Int) % 256 = (c : Int) := by omega
            skip
            skip
            have HOB := Lib.hid (show outB us fr m = c by rw [hob, h4, hc])
            clear hc hx hq h4 hob
            go_wp2_with fail
            go_still_tail 17, (by kernel_rfl)
            go_wp2_with fail
            have HS3 := Lib.hid (HSS.out c)
            go_roundw
            case rel => exact ⟨m + 1, by omega, by go_num, by rw [← HST.out, HOB.out]; exact HS3.out⟩
            case measure => simp only [intOf]; omega
        · obtain rfl : m = 64 := by omega
          rw [mapZ_end, ← HBK.out] at HT
          have HBL := Lib.hid (blkL_len k n nonce)
          have HIB := Lib.hid (show (Tryd.prog.info? 87).map (·.size) = some (vb (blkL k n nonce)).size by rw [show (vb (blkL k n nonce)).size = (blkL k n nonce).length by simp [vb, byt], blkL_len]; kernel_rfl)
          have HZB := Lib.hid (show (vb z64).size = (vb (blkL k n nonce)).size by rw [show (vb (blkL k n nonce)).size = (blkL k n nonce).length by simp [vb, byt], blkL_len]; rfl)
          have HE := Lib.hid HT.out
          clear HT
          obtain ⟨bl, hbl⟩ : ∃ bl, bl = blkL k n nonce := ⟨_, rfl⟩
          have HBB := Lib.hid hbl
          rw [← hbl] at HIB HZB HE
          clear hbl
          subst hgR
          go_wp2_with (first
            | (refine wpList_load_row rfl 87 (.tmp 11) rfl gO rfl 87 (vb bl) (0, 0) _ HE.out.oA Tryd.underlying87 rfl HIB.out ?_)
            | (refine wpList_store_rowTo rfl 87 (.tmp 6) (.tmp 49) rfl rfl (w.heap.size + 1 + 1) (vb bl) rfl rfl 87 (vb z64) HE.out.st.rA HIB.out HZB.out (vb_one _) ?_))
          (try simp only [Exit.inBlock, Exit.then])
          refine bodyPost_ret (results_cell_row rfl _ _ (w.heap.size + 1 + 1) 87 (vb bl) (0, 0) _ rfl (setRow_heap wr (w.heap.size + 1 + 1) (vb z64) _ 87 (0, 0) HE.out.st.rA) Tryd.underlying87 rfl HIB.out) rfl ?_
          exact ⟨by rw [HBB.out], HE.out.st.bel.trans (below_setRow _ _ _ hr0)⟩
end Go.Proofs.YtldjbbcfbjpfcaaDoor
namespace Go.Proofs.YtldjbbcfbjpfcaaDoor
open Go.RowKit
set_option linter.unusedVariables false
set_option linter.unusedSimpArgs false
theorem i64_and63 (n : Int) : bits .and .i64 n 63 = n % 64 := by
  have h63 : (BitVec.ofInt 64 63).toNat = 2 ^ 6 - 1 := by decide
  have key : (BitVec.ofInt 64 n &&& BitVec.ofInt 64 63).toNat = (n % ((2 ^ 64 : Nat) : Int)).toNat % 2 ^ 6 := by
    rw [BitVec.toNat_and, BitVec.toNat_ofInt, h63, Nat.and_two_pow_sub_one_eq_mod]
  show IntKind.i64.wrap ((BitVec.ofInt 64 n &&& BitVec.ofInt 64 63).toNat : Nat) = n % 64
  rw [key, IntKind.wrap_i64]
  omega
def xorB (k nonce : List Nat) (n : Nat) (b : List Nat) (i : Nat) : Nat := b.getD i 0 ^^^ (blkL k ((n + i / 64) % 4294967296) nonce).getD (i % 64) 0
/-- the stream laid over a row -/
def xorL (k nonce : List Nat) (n : Nat) (b : List Nat) : List Nat := (List.range b.length).map (xorB k nonce n b)
theorem xorL_len (k nonce : List Nat) (n : Nat) (b : List Nat) : (xorL k nonce n b).length = b.length := by simp [xorL]
theorem xorL_lt (k nonce : List Nat) (n : Nat) {b : List Nat} (hb : ∀ c ∈ b, c < 256) : ∀ c ∈ xorL k nonce n b, c < 256 := fun c hc => by
  obtain ⟨i, _, rfl⟩ := List.mem_map.1 hc
  exact Nat.xor_lt_two_pow (n := 8) (getD_lt hb i) (getD_lt (blkL_lt _ _ _) _)
theorem OwnB.off {w w' : World} {base : Nat} {v : Value} {l : List Nat} {S : Nat → Prop} (h : OwnB w base v l) (ho : Only S w w') (hS : ∀ k, S k → k < base) : OwnB w' base v l :=
  own_keep h ho (fun g hg hs => by
    rcases h.2 with ⟨h1, h2⟩ | ⟨g', cap, cur, h1, hb, _⟩
    · rw [h1] at hg; cases hg
    · rw [h1] at hg
      have e : g' = g := by simpa [Value.ownBlock] using hg
      have := hS g hs
      omega)
theorem only_setRow (w : World) (g : Nat) (cs : Array Value) : Only (fun k => k = g) w (w.setRow g cs) := ⟨rfl, rfl, rfl, by simp [World.setRow], fun i hi hn => setRow_other _ _ i _ hn⟩
/-- the blocks of memory while a row is laid over -/
structure Xst (w W : World) (k nonce bs : List Nat) : Prop where
  bel : Below w.heap.size w W
  kA : Blk W w.heap.size 42 (vb k)
  nA : Blk W (w.heap.size + 1) 24 (vb nonce)
  bA : Blk W (w.heap.size + 1 + 1) 87 (vb bs)
  sz : w.heap.size + 1 + 1 + 1 ≤ W.heap.size
theorem Xst.next {w W W' : World} {k nonce bs : List Nat} (s : Xst w W k nonce bs) (hb : Below (w.heap.size + 1 + 1 + 1) W W') : Xst w W' k nonce bs :=
  ⟨s.bel.trans (hb.mono (by omega)), s.kA.below hb (by omega), s.nA.below hb (by omega), s.bA.below hb (by omega), Nat.le_trans s.sz hb.size⟩
theorem Xst.row {w W : World} {k nonce bs : List Nat} (s : Xst w W k nonce bs) (cs : List Nat) : Xst w (W.setRow (w.heap.size + 1 + 1) (vb cs)) k nonce cs :=
  ⟨s.bel.trans (below_setRow _ _ _ (by omega)), (setRow_other _ _ _ _ (by omega)).trans s.kA, (setRow_other _ _ _ _ (by omega)).trans s.nA, setRow_heap _ _ _ _ _ (0, 0) s.bA, by have := s.sz; simp [World.setRow]; omega⟩
theorem Xst.begin (w : World) (k nonce : List Nat) : Xst w (((w.alloc (Obj.cells (vb k) 42)).alloc (Obj.cells (vb nonce) 24)).alloc (Obj.cells (vb z64) 87)) k nonce z64 :=
  ⟨(((Below.refl _ _).alloc (Nat.le_refl _) _).alloc (by simp) _).alloc (by simp; omega) _, ((Blk.new w _ _).alloc _).alloc _, (show Blk _ (w.heap.size + 1) _ _ from heap2 w _ _).alloc _, heap3 w _ _ _, by simp⟩
set_option maxRecDepth 100000 in
set_option maxHeartbeats 8000000 in
theorem xor_c (B : Nat) (A : Option Addr) (ca : Nat) (k nonce : List Nat) (n : Nat) (b : List Nat) (w : World) (hk : k.length = 32) (hkl : ∀ c ∈ k, c < 256) (hn : n < 4294967296) (hc : nonce.length = 12) (hcl : ∀ c ∈ nonce, c < 256)
    (hr : Rd w B A (byt b)) (hB : B ≤ w.heap.size) (hbl : ∀ c ∈ b, c < 256) (hlen : b.length ≤ 10000000) (hq : QuartersAt w) :
    Calls Tryd.prog 31 #[.agg (vb k), .agg (vb nonce), .int .u32 n, .slice A b.length ca] w (Gives (xorL k nonce n b) w) := by
  obtain ⟨i0, hi, hz0, hz1, hz2⟩ := info_parts byteInfo
  have zg := zero_64b
  have zt1 : (vb z64).size = 64 := by rfl
  have zt2 : ¬ vb z64 = #[] := by intro h; have := congrArg Array.size h; rw [zt1] at this; cases this
  have HQ := Lib.hid hq
  have HR := Lib.hid hr
  have HBL := Lib.hid hbl
  have HST := Lib.hid (fun m (hm : m < 4294967296) W (h : QuartersAt W) => block_c k m nonce W hk hkl hm hc hcl h)
  have HIK := Lib.hid (show (Tryd.prog.info? 42).map (·.size) = some (vb k).size by rw [show (vb k).size = k.length by simp [vb, byt], hk]; kernel_rfl)
  have HIN := Lib.hid (show (Tryd.prog.info? 24).map (·.size) = some (vb nonce).size by rw [show (vb nonce).size = nonce.length by simp [vb, byt], hc]; kernel_rfl)
  have HIB := Lib.hid (show ∀ us : List Nat, us.length = 64 → (Tryd.prog.info? 87).map (·.size) = some (vb us).size from fun us h => by rw [show (vb us).size = us.length by simp [vb, byt], h]; kernel_rfl)
  have HZB := Lib.hid (show ∀ us vs : List Nat, us.length = 64 → vs.length = 64 → (vb us).size = (vb vs).size from fun us vs h1 h2 => by simp [vb, byt, h1, h2])
  clear hkl hcl hq hr hbl hk hc
  go_enter Tryd.func31, Tryd.ntmps31
  go_upto_region 3 with (first
    | (refine Go.Great.wpList_boxTo rfl 42 (.tmp 0) rfl (some 4) rfl w.heap.size rfl (vb k) rfl ?_)
    | (refine Go.Great.wpList_boxTo rfl 24 (.tmp 1) rfl (some 5) rfl (w.heap.size + 1) (by simp) (vb nonce) rfl ?_))
  have hs0 := Xst.begin w k nonce
  generalize ((w.alloc (Obj.cells (vb k) 42)).alloc (Obj.cells (vb nonce) 24)).alloc (Obj.cells (vb z64) 87) = Z at *
  have HS := Lib.hid hs0
  clear hs0 zg zt1 zt2
  go_wp2_with fail
  go_loopw [2, 9, 15] (fun nv v i wr => ∃ (m : Nat) (bs : List Nat), m ≤ b.length ∧ i = .int .i64 m ∧ nv = .int .u32 (((n + (m + 63) / 64) % 4294967296 : Nat) : Int) ∧ Xst w wr k nonce bs ∧ bs.length = 64 ∧ (∀ c ∈ bs, c < 256) ∧ (m % 64 ≠ 0 → bs = blkL k ((n + m / 64) % 4294967296) nonce) ∧ OwnB wr (w.heap.size + 1 + 1 + 1) v ((List.range m).map (xorB k nonce n b))) (fun _ _ i _ => b.length - (intOf i).toNat)
  case atStart => exact ⟨0, z64, by omega, rfl, by rw [show (n + (0 + 63) / 64) % 4294967296 = n by omega], HS.out, rfl, by decide, fun h => absurd rfl h, OwnB.nil_ _ _⟩
  case round =>
    rename World => wr
    obtain ⟨m, bs, hm, rfl, rfl, hs, hb64, hbs, hbm, how⟩ := hrel
    have HT := Lib.hid hs
    have HOW := Lib.hid how
    have HBS := Lib.hid hbs
    have HL64 := Lib.hid hb64
    clear hs how hbs HS hb64
    by_cases hlt : m < b.length
    · have p1 : (m : Int) < (b.length : Int) := by omega
      obtain ⟨ad, rfl, _, d0⟩ := (HR.out.below (HT.out.bel.mono hB)).byte (k := m) hlt
      have HLT := Lib.hid (show ((List.range m).map (xorB k nonce n b)).length = m by simp)
      have HSN := Lib.hid (show (List.range (m + 1)).map (xorB k nonce n b) = (List.range m).map (xorB k nonce n b) ++ [xorB k nonce n b m] by rw [List.range_succ, List.map_append]; rfl)
      have hxb : xorB k nonce n b m = b.getD m 0 ^^^ (blkL k ((n + m / 64) % 4294967296) nonce).getD (m % 64) 0 := rfl
      have hbc := getD_lt HBL.out m
      have ba : bits BinOp.and .i64 (m : Int) 63 = ((m % 64 : Nat) : Int) := by rw [i64_and63]; omega
      obtain ⟨N, hN⟩ : ∃ N, N = (n + (m + 63) / 64) % 4294967296 := ⟨_, rfl⟩
      rw [← hN]
      have hN2 : N < 4294967296 := by omega
      generalize b.getD m 0 = c at *
      by_cases h0 : m % 64 = 0
      · have hN3 : (n + m / 64) % 4294967296 = N := by omega
        have bz : bits BinOp.and .i64 (m : Int) 63 = 0 := by rw [ba, h0]; rfl
        obtain ⟨N', hN'⟩ : ∃ N', N' = (n + (m + 1 + 63) / 64) % 4294967296 := ⟨_, rfl⟩
        have HNN := Lib.hid hN'
        have f0 : IntKind.u32.wrap ((N : Int) + 1) = (N' : Int) := by rw [wrap32]; omega
        rw [hN3, h0] at hxb
        have HCA := Lib.hid (HST.out N hN2)
        have hb64 := blkL_len k N nonce
        have HB2 := Lib.hid (blkL_lt k N nonce)
        have HBN := Lib.hid (show (m + 1) % 64 ≠ 0 → blkL k N nonce = blkL k ((n + (m + 1) / 64) % 4294967296) nonce from fun _ => by rw [show (n + (m + 1) / 64) % 4294967296 = N by omega])
        have HQW := Lib.hid (HQ.out.next HT.out.bel)
        clear hN hN3 hN' ba hbm
        generalize blkL k N nonce = bl at *
        have HB64 := Lib.hid hb64
        have x0 := getD_lt HB2.out 0
        have f1 : bits BinOp.xor .u8 (c : Int) ((bl.getD 0 0 : Nat) : Int) = ((c ^^^ bl.getD 0 0 : Nat) : Int) := u8_xor_nat _ _ hbc x0
        have HXB := Lib.hid hxb
        clear hxb hb64
        generalize xorB k nonce n b m = y at *
        rw [← HXB.out] at f1
        have HD0 := Lib.hid (fun W (h : Xst w W k nonce bl) => (h.bA.cell 0).trans (vb_at bl 0 (by rw [HB64.out]; decide)))
        generalize bl.getD 0 0 = x at *
        generalize (List.range m).map (xorB k nonce n b) = L at *
        go_upto_region 8 with (first
          | (refine wpList_load_row rfl 42 (.tmp 4) rfl w.heap.size rfl 42 (vb k) (0, 0) _ HT.out.kA Tryd.underlying42 rfl HIK.out ?_)
          | (refine wpList_load_row rfl 24 (.tmp 5) rfl (w.heap.size + 1) rfl 24 (vb nonce) (0, 0) _ HT.out.nA Tryd.underlying24 rfl HIN.out ?_)
          | (go_at_call 41; (refine (HCA.out _ HQW.out).mono ?_); rintro e W1 ⟨rfl, hb⟩; have HT1 := Lib.hid (HT.out.next (hb.mono HT.out.sz)); have HO1 := Lib.hid (HOW.out.next hb); clear hb)
          | (refine wpList_store_rowTo rfl 87 (.tmp 10) (.tmp 26) rfl rfl (w.heap.size + 1 + 1) (vb bl) rfl rfl 87 (vb bs) HT1.out.bA (HIB.out bl HB64.out) (HZB.out bs bl HL64.out HB64.out) (vb_one _) ?_))
        have HT2 := Lib.hid (HT1.out.row bl)
        have HO2 := Lib.hid (HO1.out.off (only_setRow W1 (w.heap.size + 1 + 1) (vb bl)) (fun k hk => by omega))
        generalize W1.setRow (w.heap.size + 1 + 1) (vb bl) = X at *
        have d1 := HD0.out X HT2.out
        clear HT1 HO1
        go_wp2_with (first
          | (refine wpList_valM rfl _ _ (run_one X y (.tmp 35) rfl rfl) ?_)
          | (at_builtin; refine wpList_app _ rfl (.tmp 29) (.tmp 36) _ rfl (w.heap.size + 1 + 1 + 1) 5 i0 (.int .u8 0) 1 1 Tryd.underlying25 hi hz0 hz1 hz2 rfl (by decide) _ L.length (byt L) rfl (HO2.out.alloc _) _ _ 1 1 [.int .u8 (y : Nat)] rfl rfl (by exact rd_one _ _ _) (byt_one [y]) (by rw [HLT.out]; omega) (by rw [HLT.out]; omega) (by have := HT2.out.sz; simp; omega) ?_; intro v5 w5 hap; have HO5 := Lib.hid (OwnB.snoc hap); have HT5 := Lib.hid (HT2.out.next (((Below.refl (w.heap.size + 1 + 1 + 1) X).alloc HT2.out.sz _).trans (hap.below (HO2.out.alloc _) (by have := HT2.out.sz; simp; omega)))); clear hap))
        go_roundw
        case rel => exact ⟨m + 1, bl, by omega, by go_num, by rw [← HNN.out], HT5.out, HB64.out, HB2.out, HBN.out, by rw [HSN.out]; exact HO5.out⟩
        case measure => simp only [intOf]; omega
      · have hbb := hbm h0
        have h0' : ¬ ((m % 64 : Nat) : Int) = 0 := by omega
        obtain ⟨r, hr⟩ : ∃ r, r = m % 64 := ⟨_, rfl⟩
        have hN3 : N = (n + (m + 1 + 63) / 64) % 4294967296 := by omega
        have HNN := Lib.hid hN3
        have HBN := Lib.hid (show (m + 1) % 64 ≠ 0 → bs = blkL k ((n + (m + 1) / 64) % 4294967296) nonce from fun _ => by rw [hbb, show (n + (m + 1) / 64) = n + m / 64 by omega])
        rw [← hbb, ← hr] at hxb
        rw [← hr] at ba h0'
        have hr2 : r < 64 := by omega
        have q1 : (r : Int) < 64 := by omega
        clear hN hN3 hbm hbb h0 hr
        have x0 := getD_lt HBS.out r
        have f1 : bits BinOp.xor .u8 (c : Int) ((bs.getD r 0 : Nat) : Int) = ((c ^^^ bs.getD r 0 : Nat) : Int) := u8_xor_nat _ _ hbc x0
        have HXB := Lib.hid hxb
        clear hxb
        generalize xorB k nonce n b m = y at *
        rw [← HXB.out] at f1
        have d1 := (HT.out.bA.cell r).trans (vb_at bs r (by rw [HL64.out]; exact hr2))
        generalize bs.getD r 0 = x at *
        generalize (List.range m).map (xorB k nonce n b) = L at *
        go_wp2_with (first
          | (refine wpList_valM rfl _ _ (run_one wr y (.tmp 35) rfl rfl) ?_)
          | (at_builtin; refine wpList_app _ rfl (.tmp 29) (.tmp 36) _ rfl (w.heap.size + 1 + 1 + 1) 5 i0 (.int .u8 0) 1 1 Tryd.underlying25 hi hz0 hz1 hz2 rfl (by decide) _ L.length (byt L) rfl (HOW.out.alloc _) _ _ 1 1 [.int .u8 (y : Nat)] rfl rfl (by exact rd_one _ _ _) (byt_one [y]) (by rw [HLT.out]; omega) (by rw [HLT.out]; omega) (by have := HT.out.sz; simp; omega) ?_; intro v5 w5 hap; have HO5 := Lib.hid (OwnB.snoc hap); have HT5 := Lib.hid (HT.out.next (((Below.refl (w.heap.size + 1 + 1 + 1) wr).alloc HT.out.sz _).trans (hap.below (HOW.out.alloc _) (by have := HT.out.sz; simp; omega)))); clear hap))
        go_roundw
        case rel => exact ⟨m + 1, bs, by omega, by go_num, by rw [← HNN.out], HT5.out, HL64.out, HBS.out, HBN.out, by rw [HSN.out]; exact HO5.out⟩
        case measure => simp only [intOf]; omega
    · obtain rfl : m = b.length := by omega
      go_wp2_with fail
      refine bodyPost_ret (results_tmp rfl _ _ _) rfl ?_
      exact ⟨_, rfl, own_base_le HOW.out (by omega), HT.out.bel⟩
end Go.Proofs.YtldjbbcfbjpfcaaDoor
/- Contract: the document's stream laid over a row. -/
namespace Go.Proofs.YtldjbbcfbjpfcaaDoor
set_option maxRecDepth 100000
open Go.RowKit
set_option linter.unusedVariables false
set_option linter.unusedSimpArgs false
theorem rd_cell {w : World} {B : Nat} {ad : Addr} {l : List Nat} (h : Rd w B (some ad) (byt l)) (i : Nat) (hi : i < l.length) : w.cell? (ad.add i) = some (.int .u8 (l.getD i 0 : Nat)) := by
  obtain ⟨a1, e1, _, hc⟩ := h.byte hi
  injection e1 with e1
  subst e1
  exact hc
/-- two rows of bytes of the call's own, apart -/
structure TwoB (w : World) (base : Nat) (vx vy : Value) (xs ys : List Nat) : Prop where
  ox : OwnB w base vx xs
  oy : OwnB w base vy ys
  ne : ∀ g, vx.ownBlock = some g → vy.ownBlock ≠ some g
theorem TwoB.next {w w' : World} {base : Nat} {vx vy : Value} {xs ys : List Nat} (h : TwoB w base vx vy xs ys) (hb : Below w.heap.size w w') : TwoB w' base vx vy xs ys := ⟨h.ox.next hb, h.oy.next hb, h.ne⟩
theorem TwoB.nil_ (w : World) (base : Nat) : TwoB w base (.slice none 0 0) (.slice none 0 0) [] [] := ⟨OwnB.nil_ _ _, OwnB.nil_ _ _, fun g h => by cases h⟩
theorem TwoB.app {w w' : World} {base : Nat} {vx vy v' : Value} {xs ys : List Nat} {c : Nat} (h : TwoB w base vx vy xs ys) (hap : Apped w base 5 1 vx w' v' (xs.length + 1) (byt xs ++ [.int .u8 (c : Int)])) : TwoB w' base v' vy (xs ++ [c]) ys :=
  ⟨OwnB.snoc hap, own_keep h.oy (hap.only (S := fun k => vx.ownBlock = some k) (fun g hg => hg)) (fun g hg hs => h.ne g hs hg), fun g h1 h2 => by
    rcases hap.lies with e | e
    · rw [e] at h1; exact h.ne g h1 h2
    · rw [e] at h1
      injection h1 with h1
      have := own_lt h.oy g h2
      omega⟩
theorem TwoB.fresh {w w' : World} {base : Nat} {vx vy v' : Value} {xs ys zs : List Nat} (h : TwoB w base vx vy xs ys) (hB : base ≤ w.heap.size) (ho : OwnB w' w.heap.size v' zs) (hb : Below w.heap.size w w') : TwoB w' base vx v' xs zs :=
  ⟨h.ox.next hb, own_base_le ho hB, fun g h1 h2 => by
    have a := own_lt h.ox g h1
    have b := own_base ho g h2
    omega⟩
theorem Rbx.begin2 (w : World) (k nonce : List Nat) : Rbx w ((w.alloc (Obj.cells (vb k) 41)).alloc (Obj.cells (vb nonce) 23)) k nonce :=
  ⟨((Below.refl _ _).alloc (Nat.le_refl _) _).alloc (by simp) _, (Blk.new w _ _).alloc _, heap2 w _ _, by simp⟩
end Go.Proofs.YtldjbbcfbjpfcaaDoor
/- Values made of what loud operations handed back; contract: pad. -/
namespace Go.Proofs.YtldjbbcfbjpfcaaDoor
set_option maxRecDepth 100000
open Go.RowKit
set_option linter.unusedVariables false
set_option linter.unusedSimpArgs false
section
variable {P : Program} {ops : Array Oper} {Z : World} {ls : List Tmp} {V : Tmp → Value → World → Prop} {Q : Act → Prop} {rest : List Oper} {o : Oper} {b : Act}
/-- an operation that makes something new out of what loud operations handed back -/
theorem wpLoud_makeG (d : Tmp) (hd : o.dst = some d) (hl : ls.contains d = true) (need : List Tmp) (hw : Region.wanted o (yielded ops b.tmps) = true) (hsel : ∀ cs t, o.op ≠ .select cs t)
    (hn : (need.all fun k => ls.contains k && ((o.looksAt ops).contains k && isTok (b.eval (.tmp k)))) = true)
    (hc : ∀ (g : Tmp → Value) (x : Ext Z), (∀ k ∈ need, V k (g k) x.wd) → ∃ u w'', (execOp (over ls b g) o).run P x.wd = .ok (.value u) w'' ∧ Below x.wd.heap.size x.wd w'' ∧ V d u w'')
    (b' : Act) (hb : b.put o.dst tok = b') (h : wpLoud P ops Z ls V Q rest b') : wpLoud P ops Z ls V Q (o :: rest) b := by
  subst hb
  unfold wpLoud
  rw [if_pos hw]
  refine ⟨tok, fun a w hC hs => ?_, h⟩
  have he : ∀ x ∈ o.op.operands, a.eval x = over ls b (fun k => a.eval (.tmp k)) x := fun x hx => by
    cases x with
    | tmp k =>
      have hk : k ∈ o.looksAt ops := List.mem_append_left _ (List.mem_filterMap.2 ⟨.tmp k, by simpa using hx, rfl⟩)
      show _ = if ls.contains k then _ else _
      cases hcn : ls.contains k
      · exact (hs k hk).2 hcn
      · rfl
    | const v => rfl
    | global v => rfl
    | func v => rfl
  rw [execOp_congr o hsel he]
  obtain ⟨u, w'', h1, h2, h3⟩ := hc (fun k => a.eval (.tmp k)) ⟨w, hC⟩ (fun k hk => by
    have h1 := List.all_eq_true.1 hn k hk
    simp only [Bool.and_eq_true] at h1
    exact (hs k (by simpa using h1.2.1)).1 h1.1 (isTok_eq h1.2.2))
  have h1' : (execOp (over ls b fun k => a.eval (.tmp k)) o).run P w = .ok (.value u) w'' := h1
  rw [h1']
  exact .inr ⟨h2, fun d' hd' => by rw [hd] at hd'; injection hd' with hd'; subst hd'; exact ⟨hl, h3⟩⟩
end
theorem i64_and15 (n : Int) : bits .and .i64 n 15 = n % 16 := by
  have h63 : (BitVec.ofInt 64 15).toNat = 2 ^ 4 - 1 := by decide
  have key : (BitVec.ofInt 64 n &&& BitVec.ofInt 64 15).toNat = (n % ((2 ^ 64 : Nat) : Int)).toNat % 2 ^ 4 := by
    rw [BitVec.toNat_and, BitVec.toNat_ofInt, h63, Nat.and_two_pow_sub_one_eq_mod]
  show IntKind.i64.wrap ((BitVec.ofInt 64 n &&& BitVec.ofInt 64 15).toNat : Nat) = n % 16
  rw [key, IntKind.wrap_i64]
  omega
def padN (n : Nat) : Nat := (16 - n % 16) % 16
theorem padN_lt (n : Nat) : padN n < 16 := Nat.mod_lt _ (by decide)
def zs (n : Nat) : List Nat := List.replicate n 0
theorem zs_lt (n : Nat) : ∀ c ∈ zs n, c < 256 := fun c h => by rw [(List.mem_replicate.1 h).2]; decide
set_option maxRecDepth 100000 in
set_option maxHeartbeats 1000000 in
theorem pad_c (n : Nat) (w : World) (hn : n ≤ 1000000000) : Calls Tryd.prog 43 #[.int .i64 n] w (Gives (zs (padN n)) w) := by
  have hp := padN_lt n
  have f0 : IntKind.i64.wrap (-(n : Int)) = -(n : Int) := by simp [IntKind.wrap, IntKind.signed, IntKind.bits]; omega
  have f1 : bits BinOp.and .i64 (-(n : Int)) 15 = ((padN n : Nat) : Int) := by rw [i64_and15]; unfold padN; omega
  have HO := Lib.hid (OwnB.new w w.heap.size (zs (padN n)) (Nat.le_refl _) (by simp [zs, maxLen]; omega))
  have hzl : (zs (padN n)).length = padN n := by simp [zs]
  rw [hzl] at HO
  clear hzl
  have HB := Lib.hid (show Below w.heap.size w (w.alloc (.cells (byt (zs (padN n))).toArray 5)) from (Below.refl _ _).alloc (Nat.le_refl _) _)
  have hmk : (Instr.makeSlice 25 (.int .i64 (padN n : Int)) (.int .i64 (padN n : Int))).run Tryd.prog w = .ok (.slice (some ⟨w.heap.size, 0, none⟩) (padN n) (padN n)) (w.alloc (.cells (byt (zs (padN n))).toArray 5)) := run_make_bytes (padN n) (by omega) w
  generalize padN n = p at *
  generalize w.alloc (.cells (byt (zs p)).toArray 5) = W1 at *
  go_enter Tryd.func43, Tryd.ntmps43
  go_wp2
  refine bodyPost_ret (results_tmp rfl _ _ _) rfl ?_
  exact ⟨_, rfl, HO.out, HB.out⟩
/-- what is tagged -/
def sizesL (beside under : List Nat) : List Nat := form beside.length 8 ++ form under.length 8
def taggedL (beside under : List Nat) : List Nat := beside ++ (zs (padN beside.length) ++ (under ++ (zs (padN under.length) ++ sizesL beside under)))
def tagL (k nonce beside under : List Nat) : List Nat := polT ((blkL k 0 nonce).take 32) (taggedL beside under)
theorem sizesL_len (beside under : List Nat) : (sizesL beside under).length = 16 := by simp [sizesL, form_len]
theorem sizesL_lt (beside under : List Nat) : ∀ c ∈ sizesL beside under, c < 256 := fun c h => by
  rcases List.mem_append.1 h with h | h <;> exact form_lt _ _ c h
theorem taggedL_lt {beside under : List Nat} (hb : ∀ c ∈ beside, c < 256) (hu : ∀ c ∈ under, c < 256) : ∀ c ∈ taggedL beside under, c < 256 := fun c h => by
  rcases List.mem_append.1 h with h | h
  · exact hb c h
  · rcases List.mem_append.1 h with h | h
    · exact zs_lt _ c h
    · rcases List.mem_append.1 h with h | h
      · exact hu c h
      · rcases List.mem_append.1 h with h | h
        · exact zs_lt _ c h
        · exact sizesL_lt _ _ c h
theorem taggedL_len (beside under : List Nat) : (taggedL beside under).length ≤ beside.length + under.length + 48 := by
  have h1 := padN_lt beside.length
  have h2 := padN_lt under.length
  simp only [taggedL, List.length_append, sizesL_len, zs, List.length_replicate]
  omega
end Go.Proofs.YtldjbbcfbjpfcaaDoor
/- Contract: what is sealed is tagged. -/
namespace Go.Proofs.YtldjbbcfbjpfcaaDoor
set_option maxRecDepth 100000
open Go.RowKit
set_option linter.unusedVariables false
set_option linter.unusedSimpArgs false
theorem tailOf8 (n : Nat) : tailOf n 8 = form n 8 := rfl
theorem rd_nil (w : World) (B : Nat) (A : Option Addr) : Rd w B A (byt []) := fun h => absurd rfl h
theorem polT_len (k m : List Nat) : (polT k m).length = 16 := by simp [polT, form_len]
theorem run_partsR (w : World) (ps : List Part) {o : Oper} {ρ : Operand → Value} (xs : Array (Nat × Operand)) (ho : o.op = .buildSlice 102 ps.length xs)
    (hx : (xs.map fun (p : Nat × Operand) => (p.1, ρ p.2)).toList = (((ps.map pv).zipIdx 0).map fun x => (x.2, x.1))) (hlen : ps.length ≤ 1000) (hpos : 0 < ps.length) :
    (execOp ρ o).run Tryd.prog w = .ok (.value (.slice (some ⟨w.heap.size, 0, none⟩) ps.length ps.length)) (w.alloc (.cells (ps.map pv).toArray 25)) := by
  obtain ⟨i0, hi, hz0, hz1, hz2⟩ := info_parts sliceInfo
  have h1 := run_buildSlice (P := Tryd.prog) w 102 25 ps.length (xs.map fun (p : Nat × Operand) => (p.1, ρ p.2)) (ps.map pv).toArray i0 _ Tryd.underlying102 hi hz0 (by rw [hz1]; omega) (by rw [hz1]; omega) (by
    rw [hz1]
    refine (congrArg _ hx).trans ?_
    exact (Great.fill_flat (ps.map pv) _ (fun v hv => by
      obtain ⟨p, _, rfl⟩ := List.mem_map.1 hv
      rfl) (by simp)))
  unfold execOp
  simp only [ho, Sem.run_bind, h1, Result.andThen_ok]
  rfl
theorem range_take {w : World} {g : Nat} {T : TypeId} {l : List Nat} (h : Blk w g T (vb l)) (n : Nat) : w.rangeAt g 0 (byt (l.take n)) := fun j v hv => by
  rw [Nat.zero_add, h.cell j]
  have e2 : byt (l.take n) = (byt l).take n := by simp [byt, List.map_take]
  rw [e2, List.getElem?_take] at hv
  split at hv
  · rw [← hv]; simp [vb]
  · cases hv
section
variable {P : Program} {ops : Array Oper} {Z : World} {ls : List Tmp} {V : Tmp → Value → World → Prop} {Q : Act → Prop} {rest : List Oper} {o : Oper} {b : Act}
theorem wpLoud_valD (d : Tmp) (hd : o.dst = some d) (hw : Region.wanted o (yielded ops b.tmps) = true) (hq : quietB ops ls o = true) (hsel : ∀ cs t, o.op ≠ .select cs t) (v : Value) (hr : ∀ x : Ext Z, (execOp b.eval o).run P x.wd = .ok (.value v) x.wd)
    (b' : Act) (hb : b.put o.dst v = b') (h : wpLoud P ops Z ls V Q rest b') : wpLoud P ops Z ls V Q (o :: rest) b := wpLoud_val hw hq hsel v hr b' hb h
end
def Arr5 (W : World) (base : Nat) (m : List Nat) (u : Value) : Prop := ∃ ps : List Part, ps.length = 5 ∧ ArrAt W u base ps ∧ (∀ p ∈ ps, Rd W W.heap.size p.1 (byt p.2.2)) ∧ cat ps 5 = m
theorem Arr5.next {W W' : World} {base : Nat} {m : List Nat} {u : Value} (h : Arr5 W base m u) (hb : Below W.heap.size W W') : Arr5 W' base m u := by
  obtain ⟨ps, h1, h2, h3, h4⟩ := h
  exact ⟨ps, h1, h2.next hb, fun p hp => ((h3 p hp).below hb).more hb.size, h4⟩
def tagV (base : Nat) (z1 z2 m : List Nat) (k : Tmp) (u : Value) (W : World) : Prop := if k = 28 then OwnB W base u z1 else if k = 32 then OwnB W base u z2 else Arr5 W base m u
theorem tagV.next {base : Nat} {z1 z2 m : List Nat} {k : Tmp} {u : Value} {W W' : World} (h : tagV base z1 z2 m k u W) (hb : Below W.heap.size W W') : tagV base z1 z2 m k u W' := by
  unfold tagV at *
  split
  · rename_i h1; rw [if_pos h1] at h; exact OwnB.next h hb
  · rename_i h1
    rw [if_neg h1] at h
    split
    · rename_i h2; rw [if_pos h2] at h; exact OwnB.next h hb
    · rename_i h2; rw [if_neg h2] at h; exact h.next hb
set_option maxRecDepth 100000 in
set_option maxHeartbeats 8000000 in
theorem atag_c (A1 A2 : Option Addr) (c1 c2 : Nat) (k nonce beside under : List Nat) (w : World) (hk : k.length = 32) (hkl : ∀ c ∈ k, c < 256) (hc : nonce.length = 12) (hcl : ∀ c ∈ nonce, c < 256)
    (hr1 : Rd w w.heap.size A1 (byt beside)) (hr2 : Rd w w.heap.size A2 (byt under)) (hb1 : ∀ c ∈ beside, c < 256) (hb2 : ∀ c ∈ under, c < 256) (hl1 : beside.length ≤ 4200) (hl2 : under.length ≤ 4200) (hq : QuartersAt w) :
    Calls Tryd.prog 32 #[.agg (vb k), .agg (vb nonce), .slice A1 beside.length c1, .slice A2 under.length c2] w fun e w' => e = .returned (.agg (vb (tagL k nonce beside under))) ∧ Below w.heap.size w w' := by
  have zf := zero_64b
  have zs1 : (vb z64).size = 64 := by rfl
  have zs2 : ¬ vb z64 = #[] := by intro h; have := congrArg Array.size h; rw [zs1] at this; cases this
  have zt := zero_tag
  have zt1 : zT.size = 16 := by rfl
  have zt2 : ¬ zT = #[] := by intro h; have := congrArg Array.size h; rw [zt1] at this; cases this
  have HQ := Lib.hid hq
  have HR1 := Lib.hid hr1
  have HR2 := Lib.hid hr2
  have HB := Lib.hid (fun W (h : QuartersAt W) => block_c k 0 nonce W hk hkl (by decide) hc hcl h)
  have HBL := Lib.hid (blkL_len k 0 nonce)
  have HBT := Lib.hid (blkL_lt k 0 nonce)
  have HTG := Lib.hid (show tagL k nonce beside under = polT ((blkL k 0 nonce).take 32) (taggedL beside under) from rfl)
  have HTL := Lib.hid (taggedL_lt hb1 hb2)
  have HTN := Lib.hid (taggedL_len beside under)
  have HIK := Lib.hid (keySz hk)
  have HIN := Lib.hid (show (Tryd.prog.info? 24).map (·.size) = some (vb nonce).size by rw [vb_size, hc]; kernel_rfl)
  have HIB := Lib.hid (show (Tryd.prog.info? 87).map (·.size) = some (vb (blkL k 0 nonce)).size by rw [vb_size, blkL_len]; kernel_rfl)
  have HZB := Lib.hid (show (vb z64).size = (vb (blkL k 0 nonce)).size by rw [vb_size, vb_size, blkL_len]; rfl)
  have f1 : IntKind.u64.wrap (beside.length : Int) = (beside.length : Int) := by simp [IntKind.wrap, IntKind.signed, IntKind.bits]; omega
  have f2 : IntKind.u64.wrap (under.length : Int) = (under.length : Int) := by simp [IntKind.wrap, IntKind.signed, IntKind.bits]; omega
  clear hq hr1 hr2 hkl hcl hb1 hb2 hk hc
  generalize blkL k 0 nonce = bl at *
  go_enter Tryd.func32, Tryd.ntmps32
  go_upto_region 1 with (first
    | (refine Go.Great.wpList_boxTo rfl 42 (.tmp 0) rfl (some 4) rfl w.heap.size rfl (vb k) rfl ?_)
    | (refine Go.Great.wpList_boxTo rfl 24 (.tmp 1) rfl (some 5) rfl (w.heap.size + 1) (by simp) (vb nonce) rfl ?_))
  obtain ⟨Z, hZ⟩ : ∃ Z, Z = ((w.alloc (Obj.cells (vb k) 42)).alloc (Obj.cells (vb nonce) 24)).alloc (Obj.cells zT 71) := ⟨_, rfl⟩
  have BK := Lib.hid (show Blk Z w.heap.size 42 (vb k) by rw [hZ]; exact ((Blk.new w _ _).alloc _).alloc _)
  have BN := Lib.hid (show Blk Z (w.heap.size + 1) 24 (vb nonce) by rw [hZ]; exact (show Blk _ (w.heap.size + 1) _ _ from heap2 w _ _).alloc _)
  have BG := Lib.hid (show Blk Z (w.heap.size + 1 + 1) 71 zT by rw [hZ]; exact heap3 w _ _ _)
  have BZ := Lib.hid (show Below w.heap.size w Z by rw [hZ]; exact (((Below.refl _ _).alloc (Nat.le_refl _) _).alloc (by simp) _).alloc (by simp; omega) _)
  rw [← hZ]
  clear hZ
  have HQZ := Lib.hid (HQ.out.next BZ.out)
  go_upto_region 2 with (first
    | (refine wpList_load_row rfl 42 (.tmp 4) rfl w.heap.size rfl 42 (vb k) (0, 0) _ BK.out Tryd.underlying42 rfl HIK.out ?_)
    | (refine wpList_load_row rfl 24 (.tmp 5) rfl (w.heap.size + 1) rfl 24 (vb nonce) (0, 0) _ BN.out Tryd.underlying24 rfl HIN.out ?_)
    | (go_at_call 41; (refine (HB.out _ HQZ.out).mono ?_); rintro e W1 ⟨rfl, hb⟩; have HB1 := Lib.hid hb; clear hb)
    | (refine wpList_store_rowTo rfl 87 (.tmp 9) (.tmp 13) rfl rfl W1.heap.size (vb bl) rfl rfl 87 (vb z64) (by exact Blk.new W1 _ _) HIB.out HZB.out (vb_one _) ?_))
  obtain ⟨X, hX⟩ : ∃ X, X = (W1.alloc (Obj.cells (vb z64) 87)).setRow W1.heap.size (vb bl) := ⟨_, rfl⟩
  have hnr := new_row W1 87 (vb z64) (vb bl)
  rw [← hX] at hnr ⊢
  have BB := Lib.hid hnr.1
  have BZX := HB1.out.trans (hnr.2.mono HB1.out.size)
  have BX := Lib.hid (BZ.out.trans (BZX.mono BZ.out.size))
  have BG2 := Lib.hid (BG.out.below BZX BG.out.lt)
  clear hX hnr BZX HB1 BK BN BG BZ zf zs1 zs2
  generalize W1.heap.size = gB at *
  have HP1 := Lib.hid (fun W => put_c 0 none 0 [] beside.length 8 W (rd_nil W 0 none) (by omega) (by decide) (by decide) (by decide))
  have HP2 := Lib.hid (fun W A c (h : Rd W W.heap.size A (byt (form beside.length 8))) => put_c W.heap.size A c (form beside.length 8) under.length 8 W h (by omega) (by decide) (by decide) (by rw [form_len]; decide))
  have HP3 := Lib.hid (show ∀ W A c, Rd W W.heap.size A (byt (form beside.length 8)) → Calls Tryd.prog 17 #[.slice A 8 c, .int .u64 (under.length : Nat), .int .i64 8] W (Gives (form beside.length 8 ++ tailOf under.length 8) W) from fun W A c h => by have h2 := HP2.out W A c h; rw [form_len] at h2; exact h2)
  have HP1 := Lib.hid (show ∀ W, Calls Tryd.prog 17 #[.slice none 0 0, .int .u64 (beside.length : Nat), .int .i64 8] W (Gives ([] ++ tailOf beside.length 8) W) from HP1.out)
  clear HP2
  go_upto_region 3 with (first
    | (go_at_call 17; (with_reducible refine (HP1.out X).mono ?_); rintro e W2 ⟨v2, rfl, ho, hb⟩; rw [tailOf8, List.nil_append] at ho; obtain ⟨A4, c4, rfl, _, _, r4⟩ := ho.rd; rw [form_len]; have HR4 := Lib.hid r4; have HB2 := Lib.hid hb; clear ho hb r4)
    | (go_at_call 17; (with_reducible refine (HP3.out W2 A4 c4 HR4.out).mono ?_); rintro e W3 ⟨v3, rfl, ho, hb⟩; rw [tailOf8] at ho; obtain ⟨A5, c5, rfl, _, _, r5⟩ := ho.rd; rw [show (form beside.length 8 ++ form under.length 8).length = 16 by simp [form_len]]; have HR5 := Lib.hid (show Rd W3 W3.heap.size A5 (byt (sizesL beside under)) from r5); have HB3 := Lib.hid (HB2.out.trans (hb.mono HB2.out.size)); clear ho hb r5))
  have BWS := HB3.out
  have BB3 := Lib.hid (BB.out.below BWS BB.out.lt)
  have BG3 := Lib.hid (BG2.out.below BWS BG2.out.lt)
  have BW3 := Lib.hid (BX.out.trans (BWS.mono BX.out.size))
  have HS1 := Lib.hid (HR1.out.ext BW3.out)
  have HS2 := Lib.hid (HR2.out.ext BW3.out)
  have hlw : w.heap.size ≤ W3.heap.size := BW3.out.size
  have HPA := Lib.hid (fun W => pad_c beside.length W (by omega))
  have HPB := Lib.hid (fun W => pad_c under.length W (by omega))
  have HTP := Lib.hid (fun W u (h : Arr5 W W3.heap.size (taggedL beside under) u) => show Calls Tryd.prog 42 #[.agg (vb (bl.take 32)), u] W fun e w' => e = .returned (.agg (vb (polT (bl.take 32) (taggedL beside under)))) ∧ Below W.heap.size W w' from by
    obtain ⟨ps, h1, h2, h3, h4⟩ := h
    exact tag_parts (bl.take 32) (taggedL beside under) ps u W3.heap.size W (by rw [List.length_take, HBL.out]; rfl) (fun c hc => HBT.out c (List.mem_of_mem_take hc)) HTL.out (by have := HTN.out; omega) (by rw [h1]; exact h4) (by omega) h2 h3)
  have HKL := Lib.hid (keyLn (L := bl.take 32) (by rw [List.length_take, HBL.out]; rfl))
  have HTT := Lib.hid (tagSz (polT_len (bl.take 32) (taggedL beside under)))
  have HTZ := Lib.hid (show zT.size = (vb (polT (bl.take 32) (taggedL beside under))).size by rw [vb_size, polT_len]; rfl)
  have HZ1 := Lib.hid (show (zs (padN beside.length)).length = padN beside.length by simp [zs])
  have HZ2 := Lib.hid (show (zs (padN under.length)).length = padN under.length by simp [zs])
  clear HP1 HP3 HB2 HB3 BB BG2 BX HR1 HR2 HQ HQZ HB HR4 f1 f2
  refine wp_region_loudTail 14 W3 [28, 32, 34] (tagV W3.heap.size (zs (padN beside.length)) (zs (padN under.length)) (taggedL beside under)) (by kernel_rfl) (by kernel_rfl) (by kernel_rfl) (by kernel_rfl) (fun _ _ _ _ h hb => tagV.next h hb) (Below.refl _ _).drew ?_
  simp only [List.take_succ_cons, List.take_zero, List.drop_succ_cons, List.drop_zero]
  repeat (first
    | (refine wpLoud_plain (by kernel_rfl) rfl rfl ?_; intro K hK; go_big_quiet_op; go_big_quiet_on)
    | (refine wpLoud_val (by kernel_rfl) (by kernel_rfl) (fun _ _ h => by cases h) (.pointer (some ⟨gB, 0, none⟩)) (fun x => by rfl) _ (by simp only [Act.put, List.setIfInBounds_toArray, List.set_cons_succ, List.set_cons_zero]; rfl) ?_)
    | (refine wpLoud_valD 27 rfl (by kernel_rfl) (by kernel_rfl) (fun _ _ h => by cases h) (.int .i64 (beside.length : Nat)) (fun x => by kernel_rfl) _ (by simp only [Act.put, List.setIfInBounds_toArray, List.set_cons_succ, List.set_cons_zero]; rfl) ?_)
    | (refine wpLoud_valD 31 rfl (by kernel_rfl) (by kernel_rfl) (fun _ _ h => by cases h) (.int .i64 (under.length : Nat)) (fun x => by kernel_rfl) _ (by simp only [Act.put, List.setIfInBounds_toArray, List.set_cons_succ, List.set_cons_zero]; rfl) ?_)
    | (refine wpLoud_load (by kernel_rfl) (by kernel_rfl) 42 (.tmp 23) rfl gB 0 rfl (byt (bl.take 32)) _ (fun y => range_take (BB3.out.below y.bel BB3.out.lt) 32) Tryd.underlying42 rfl HKL.out _ (by simp only [Act.put, List.setIfInBounds_toArray, List.set_cons_succ, List.set_cons_zero]; rfl) ?_)
    | (refine wpLoud_call 28 rfl [] tok 43 (fun g => #[.int .i64 (beside.length : Nat)]) (by kernel_rfl) (fun _ _ h => by cases h) (by kernel_rfl) (fun g w => by kernel_rfl) (fun g y hg => by
        refine (HPA.out _).mono ?_
        rintro e w' ⟨u, rfl, ho, hb⟩
        exact ⟨u, rfl, hb, own_base_le ho y.2.size⟩) _ (by simp only [Act.put, List.setIfInBounds_toArray, List.set_cons_succ, List.set_cons_zero]; rfl) ?_)
    | (refine wpLoud_call 32 rfl [] tok 43 (fun g => #[.int .i64 (under.length : Nat)]) (by kernel_rfl) (fun _ _ h => by cases h) (by kernel_rfl) (fun g w => by kernel_rfl) (fun g y hg => by
        refine (HPB.out _).mono ?_
        rintro e w' ⟨u, rfl, ho, hb⟩
        exact ⟨u, rfl, hb, own_base_le ho y.2.size⟩) _ (by simp only [Act.put, List.setIfInBounds_toArray, List.set_cons_succ, List.set_cons_zero]; rfl) ?_))
  refine wpLoud_makeG 34 rfl rfl [28, 32] (by kernel_rfl) (fun _ _ h => by cases h) (by kernel_rfl) (fun g x hg => by
      have h1 : OwnB x.wd W3.heap.size (g 28) (zs (padN beside.length)) := hg 28 (by simp)
      have h2 : OwnB x.wd W3.heap.size (g 32) (zs (padN under.length)) := hg 32 (by simp)
      obtain ⟨A6, c6, e6, _, _, r6⟩ := h1.rd
      obtain ⟨A7, c7, e7, _, _, r7⟩ := h2.rd
      refine ⟨_, _, run_partsR x.wd [(A1, c1, beside), (A6, c6, zs (padN beside.length)), (A2, c2, under), (A7, c7, zs (padN under.length)), (A5, c5, sizesL beside under)] #[(0, .tmp 25), (1, .tmp 28), (2, .tmp 29), (3, .tmp 32), (4, .tmp 33)] rfl (by
        refine Eq.trans (b := [((0 : Nat), Value.slice A1 beside.length c1), (1, g 28), (2, Value.slice A2 under.length c2), (3, g 32), (4, Value.slice A5 16 c5)]) (by kernel_rfl) ?_
        rw [e6, e7]
        simp [pv, sizesL_len]) (by simp) (by simp), (Below.refl _ _).alloc (Nat.le_refl _) _, ?_⟩
      refine (show Arr5 _ _ _ _ from ⟨_, rfl, ⟨x.wd.heap.size, rfl, x.2.size, Blk.new _ _ _⟩, fun p hp => ?_, ?_⟩)
      · have hbw := x.bel
        have hup : Below x.wd.heap.size x.wd (x.wd.alloc (Obj.cells (List.map pv [(A1, c1, beside), (A6, c6, zs (padN beside.length)), (A2, c2, under), (A7, c7, zs (padN under.length)), (A5, c5, sizesL beside under)]).toArray 25)) := (Below.refl _ _).alloc (Nat.le_refl _) _
        simp only [List.mem_cons, List.not_mem_nil, or_false] at hp
        rcases hp with rfl | rfl | rfl | rfl | rfl
        · exact ((HS1.out.ext (hbw.mono (Nat.le_refl _))).ext hup).more (by have := x.bel.size; simp; omega)
        · exact (r6.ext hup).more (by simp)
        · exact ((HS2.out.ext (hbw.mono (Nat.le_refl _))).ext hup).more (by have := x.bel.size; simp; omega)
        · exact (r7.ext hup).more (by simp)
        · exact ((HR5.out.ext hbw).ext hup).more (by have := x.bel.size; simp; omega)
      · simp [cat, taggedL]) _ (by simp only [Act.put, List.setIfInBounds_toArray, List.set_cons_succ, List.set_cons_zero]; rfl) ?_
  refine wpLoud_call 35 rfl [34] (.agg (vb (polT (bl.take 32) (taggedL beside under)))) 42 (fun g => #[.agg (vb (bl.take 32)), g 34]) (by kernel_rfl) (fun _ _ h => by cases h) (by kernel_rfl) (fun g w => by kernel_rfl) (fun g y hg => by
      refine (HTP.out y.wd (g 34) (hg 34 (by simp))).mono ?_
      rintro e w' ⟨rfl, hb⟩
      exact ⟨_, rfl, hb, rfl⟩) _ (by simp only [Act.put, List.setIfInBounds_toArray, List.set_cons_succ, List.set_cons_zero]; rfl) ?_
  refine wpLoud_end [] (by rfl) ?_
  intro g z hg
  have HG4 := Lib.hid (BG3.out.below z.bel BG3.out.lt)
  have HB5 := Lib.hid (BW3.out.trans (z.bel.mono hlw))
  generalize z.wd = Y2 at *
  simp only [fill, Act.put, List.setIfInBounds_toArray, List.set_cons_succ, List.set_cons_zero]
  clear hg
  generalize polT (bl.take 32) (taggedL beside under) = tg at *
  go_wp2_with (refine wpList_store_rowTo rfl 71 (.tmp 8) (.tmp 35) rfl rfl (w.heap.size + 1 + 1) (vb tg) rfl rfl 71 zT HG4.out HTT.out HTZ.out (vb_one _) ?_)
  refine bodyPost_ret (results_cell_row rfl _ _ (w.heap.size + 1 + 1) 71 (vb tg) (0, 0) _ rfl (setRow_heap Y2 (w.heap.size + 1 + 1) zT _ 71 (0, 0) HG4.out) Tryd.underlying71 rfl HTT.out) rfl ?_
  exact ⟨by rw [HTG.out], HB5.out.trans (below_setRow _ _ _ (by omega))⟩
end Go.Proofs.YtldjbbcfbjpfcaaDoor
/- Contract: sealed. -/
namespace Go.Proofs.YtldjbbcfbjpfcaaDoor
set_option maxRecDepth 100000
open Go.RowKit
set_option linter.unusedVariables false
set_option linter.unusedSimpArgs false
def sealL (k nonce beside plain : List Nat) : List Nat := xorL k nonce 1 plain ++ tagL k nonce beside (xorL k nonce 1 plain)
/-- the boxes of a key and a nonce -/
structure Kbx (w W : World) (k nonce : List Nat) : Prop where
  bel : Below w.heap.size w W
  kA : Blk W w.heap.size 42 (vb k)
  nA : Blk W (w.heap.size + 1) 24 (vb nonce)
  sz : w.heap.size + 1 + 1 ≤ W.heap.size
theorem Kbx.next {w W W' : World} {k nonce : List Nat} (s : Kbx w W k nonce) (hb : Below (w.heap.size + 1 + 1) W W') : Kbx w W' k nonce :=
  ⟨s.bel.trans (hb.mono (by omega)), s.kA.below hb (by omega), s.nA.below hb (by omega), Nat.le_trans s.sz hb.size⟩
theorem Kbx.begin (w : World) (k nonce : List Nat) : Kbx w ((w.alloc (Obj.cells (vb k) 42)).alloc (Obj.cells (vb nonce) 24)) k nonce :=
  ⟨((Below.refl _ _).alloc (Nat.le_refl _) _).alloc (by simp) _, (Blk.new w _ _).alloc _, heap2 w _ _, by simp⟩
theorem tagL_len (k nonce beside under : List Nat) : (tagL k nonce beside under).length = 16 := polT_len _ _
set_option maxRecDepth 100000 in
set_option maxHeartbeats 4000000 in
theorem sealLong_c (A1 A2 : Option Addr) (c1 c2 n1 n2 : Nat) (k nonce : List Nat) (w : World) (h : 4096 < n2) :
    Calls Tryd.prog 23 #[.agg (vb k), .agg (vb nonce), .slice A1 n1 c1, .slice A2 n2 c2] w fun e w' => e = .returned (.tuple #[.slice none 0 0, .int .i64 3]) ∧ Below w.heap.size w w' := by
  have p1 : (4096 : Int) < (n2 : Int) := by omega
  have hbx := Kbx.begin w k nonce
  go_enter Tryd.func23, Tryd.ntmps23
  go_upto_region 1 with (first
    | (refine Go.Great.wpList_boxTo rfl 42 (.tmp 0) rfl (some 4) rfl w.heap.size rfl (vb k) rfl ?_)
    | (refine Go.Great.wpList_boxTo rfl 24 (.tmp 1) rfl (some 5) rfl (w.heap.size + 1) (by simp) (vb nonce) rfl ?_))
  generalize (w.alloc (Obj.cells (vb k) 42)).alloc (Obj.cells (vb nonce) 24) = Z at *
  have HB := Lib.hid hbx.bel
  clear hbx
  go_wp2_with fail
  refine bodyPost_ret (results_tmp2 rfl _ _ _) rfl ?_
  exact ⟨rfl, HB.out⟩
set_option maxRecDepth 100000 in
set_option maxHeartbeats 4000000 in
theorem seal_c (A1 A2 : Option Addr) (c1 c2 : Nat) (k nonce beside plain : List Nat) (w : World) (hk : k.length = 32) (hkl : ∀ c ∈ k, c < 256) (hc : nonce.length = 12) (hcl : ∀ c ∈ nonce, c < 256)
    (hr1 : Rd w w.heap.size A1 (byt beside)) (hr2 : Rd w w.heap.size A2 (byt plain)) (hb1 : ∀ c ∈ beside, c < 256) (hb2 : ∀ c ∈ plain, c < 256) (hl1 : beside.length ≤ 4200) (hl2 : plain.length ≤ 4096) (hq : QuartersAt w) :
    Calls Tryd.prog 23 #[.agg (vb k), .agg (vb nonce), .slice A1 beside.length c1, .slice A2 plain.length c2] w fun e w' => ∃ v, e = .returned (.tuple #[v, .int .i64 0]) ∧ OwnB w' w.heap.size v (sealL k nonce beside plain) ∧ Below w.heap.size w w' := by
  obtain ⟨i0, hib, hz0, hz1, hz2⟩ := info_parts byteInfo
  have zt := zero_tag
  have zt1 : zT.size = 16 := by rfl
  have zt2 : ¬ zT = #[] := by intro h; have := congrArg Array.size h; rw [zt1] at this; cases this
  have p1 : ¬ (4096 : Int) < (plain.length : Int) := by omega
  have HIK := Lib.hid (keySz hk)
  have HIN := Lib.hid (show (Tryd.prog.info? 24).map (·.size) = some (vb nonce).size by rw [vb_size, hc]; kernel_rfl)
  have HSL := Lib.hid (show sealL k nonce beside plain = xorL k nonce 1 plain ++ tagL k nonce beside (xorL k nonce 1 plain) from rfl)
  have HUL := Lib.hid (xorL_len k nonce 1 plain)
  have HXC := Lib.hid (fun W (hW : Below w.heap.size w W) => xor_c w.heap.size A2 c2 k nonce 1 plain W hk hkl (by decide) hc hcl (hr2.below hW) hW.size hb2 (by omega) (hq.next hW))
  have HTC := Lib.hid (fun W A c (hW : Below w.heap.size w W) (h : Rd W W.heap.size A (byt (xorL k nonce 1 plain))) => atag_c A1 A c1 c k nonce beside (xorL k nonce 1 plain) W hk hkl hc hcl ((hr1.below hW).more hW.size) h hb1 (xorL_lt k nonce 1 hb2) hl1 (by rw [xorL_len]; omega) (hq.next hW))
  have HTT := Lib.hid (tagSz (tagL_len k nonce beside (xorL k nonce 1 plain)))
  have HTZ := Lib.hid (show zT.size = (vb (tagL k nonce beside (xorL k nonce 1 plain))).size by rw [vb_size, tagL_len]; rfl)
  have HTN := Lib.hid (tagL_len k nonce beside (xorL k nonce 1 plain))
  clear hkl hcl hr1 hr2 hb1 hb2 hq
  generalize tagL k nonce beside (xorL k nonce 1 plain) = tg at *
  generalize xorL k nonce 1 plain = un at *
  have hbx := Kbx.begin w k nonce
  go_enter Tryd.func23, Tryd.ntmps23
  go_upto_region 1 with (first
    | (refine Go.Great.wpList_boxTo rfl 42 (.tmp 0) rfl (some 4) rfl w.heap.size rfl (vb k) rfl ?_)
    | (refine Go.Great.wpList_boxTo rfl 24 (.tmp 1) rfl (some 5) rfl (w.heap.size + 1) (by simp) (vb nonce) rfl ?_))
  generalize (w.alloc (Obj.cells (vb k) 42)).alloc (Obj.cells (vb nonce) 24) = Z at *
  have HB := Lib.hid hbx
  clear hbx
  go_upto_region 4 with (first
    | (refine wpList_load_row rfl 42 (.tmp 4) rfl w.heap.size rfl 42 (vb k) (0, 0) _ HB.out.kA Tryd.underlying42 rfl HIK.out ?_)
    | (refine wpList_load_row rfl 24 (.tmp 5) rfl (w.heap.size + 1) rfl 24 (vb nonce) (0, 0) _ HB.out.nA Tryd.underlying24 rfl HIN.out ?_)
    | (go_at_call 31; (refine (HXC.out Z HB.out.bel).mono ?_); rintro e W1 ⟨v1, rfl, ho, hb⟩; have HO1 := Lib.hid (own_base_le ho HB.out.sz); obtain ⟨A3, c3, rfl, _, _, r3⟩ := ho.rd; have HR3 := Lib.hid r3; have HB1 := Lib.hid (HB.out.next (hb.mono HB.out.sz)); clear ho hb r3))
  go_upto_region 5 with (first
    | (refine wpList_load_row rfl 42 (.tmp 4) rfl w.heap.size rfl 42 (vb k) (0, 0) _ HB1.out.kA Tryd.underlying42 rfl HIK.out ?_)
    | (refine wpList_load_row rfl 24 (.tmp 5) rfl (w.heap.size + 1) rfl 24 (vb nonce) (0, 0) _ HB1.out.nA Tryd.underlying24 rfl HIN.out ?_)
    | (go_at_call 32; (refine (HTC.out W1 A3 c3 HB1.out.bel HR3.out).mono ?_); rintro e W2 ⟨rfl, hb⟩; have HO2 := Lib.hid (OwnB.next HO1.out hb); have HB2 := Lib.hid (HB1.out.next (hb.mono HB1.out.sz)); clear hb)
    | (refine wpList_store_rowTo rfl 71 (.tmp 11) (.tmp 23) rfl rfl W2.heap.size (vb tg) rfl rfl 71 zT (by exact Blk.new W2 _ _) HTT.out HTZ.out (vb_one _) ?_))
  have hnr := new_row W2 71 zT (vb tg)
  have HO3 := Lib.hid (OwnB.next HO2.out hnr.2)
  have HB3 := Lib.hid (HB2.out.next (hnr.2.mono HB2.out.sz))
  have HG := Lib.hid (rd_all hnr.1)
  generalize (W2.alloc (Obj.cells zT 71)).setRow W2.heap.size (vb tg) = W3 at *
  clear hnr
  go_wp2_with (at_builtin; refine wpList_app _ rfl (.tmp 24) (.tmp 25) _ rfl (w.heap.size + 1 + 1) 5 i0 (.int .u8 0) 1 1 Tryd.underlying25 hib hz0 hz1 hz2 rfl (by decide) _ un.length (byt un) rfl HO3.out _ (some ⟨W2.heap.size, 0, none⟩) 16 16 (byt tg) rfl (by simp [byt_len, HTN.out]) HG.out (byt_one _) (by rw [HUL.out]; omega) (by rw [HUL.out]; omega) (by have := HB3.out.sz; omega) ?_; intro v5 w5 hap; have HO5 := Lib.hid (show OwnB w5 (w.heap.size + 1 + 1) v5 (un ++ tg) from OwnB.app (by rw [HTN.out]; exact hap)); have HB5 := Lib.hid (HB3.out.next (hap.below HO3.out (by have := HB3.out.sz; omega))); clear hap)
  refine bodyPost_ret (results_tmp2 rfl _ _ _) rfl ?_
  exact ⟨_, rfl, by rw [HSL.out]; exact own_base_le HO5.out (by omega), HB5.out.bel⟩
end Go.Proofs.YtldjbbcfbjpfcaaDoor
/- Merged: Cd1 Cd2. -/
namespace Go.Proofs.YtldjbbcfbjpfcaaDoor
set_option maxRecDepth 100000
open Go.RowKit
set_option linter.unusedVariables false
set_option linter.unusedSimpArgs false
/-- what is opened, and how -/
def openErr (k nonce beside sealed : List Nat) : Nat :=
  if sealed.length < 16 then 2 else if 4112 < sealed.length then 3 else if tagL k nonce beside (sealed.take (sealed.length - 16)) == sealed.drop (sealed.length - 16) then 0 else 5
def openL (k nonce beside sealed : List Nat) : List Nat := if openErr k nonce beside sealed = 0 then xorL k nonce 1 (sealed.take (sealed.length - 16)) else []
set_option maxRecDepth 100000 in
set_option maxHeartbeats 4000000 in
theorem openShort_c (A1 A2 : Option Addr) (c1 c2 n1 n2 : Nat) (k nonce : List Nat) (w : World) (h : n2 < 16) :
    Calls Tryd.prog 25 #[.agg (vb k), .agg (vb nonce), .slice A1 n1 c1, .slice A2 n2 c2] w fun e w' => e = .returned (.tuple #[.slice none 0 0, .int .i64 2]) ∧ Below w.heap.size w w' := by
  have f0 : IntKind.i64.wrap ((n2 : Int) - 16) = (n2 : Int) - 16 := by simp [IntKind.wrap, IntKind.signed, IntKind.bits]; omega
  have p1 : (n2 : Int) - 16 < 0 := by omega
  have hbx := Kbx.begin w k nonce
  go_enter Tryd.func25, Tryd.ntmps25
  go_upto_region 1 with (first
    | (refine Go.Great.wpList_boxTo rfl 42 (.tmp 0) rfl (some 4) rfl w.heap.size rfl (vb k) rfl ?_)
    | (refine Go.Great.wpList_boxTo rfl 24 (.tmp 1) rfl (some 5) rfl (w.heap.size + 1) (by simp) (vb nonce) rfl ?_))
  generalize (w.alloc (Obj.cells (vb k) 42)).alloc (Obj.cells (vb nonce) 24) = Z at *
  have HB := Lib.hid hbx.bel
  clear hbx
  go_wp2_with fail
  refine bodyPost_ret (results_tmp2 rfl _ _ _) rfl ?_
  exact ⟨rfl, HB.out⟩
set_option maxRecDepth 100000 in
set_option maxHeartbeats 4000000 in
theorem openLong_c (A1 A2 : Option Addr) (c1 c2 n1 n2 : Nat) (k nonce : List Nat) (w : World) (h : 4112 < n2) (h2 : n2 ≤ 1000000) :
    Calls Tryd.prog 25 #[.agg (vb k), .agg (vb nonce), .slice A1 n1 c1, .slice A2 n2 c2] w fun e w' => e = .returned (.tuple #[.slice none 0 0, .int .i64 3]) ∧ Below w.heap.size w w' := by
  obtain ⟨m, hm⟩ : ∃ m, m = n2 - 16 := ⟨_, rfl⟩
  have f0 : IntKind.i64.wrap ((n2 : Int) - 16) = (m : Int) := by simp [IntKind.wrap, IntKind.signed, IntKind.bits]; omega
  have p1 : ¬ (m : Int) < 0 := by omega
  have p2 : (4096 : Int) < (m : Int) := by omega
  have hbx := Kbx.begin w k nonce
  go_enter Tryd.func25, Tryd.ntmps25
  go_upto_region 1 with (first
    | (refine Go.Great.wpList_boxTo rfl 42 (.tmp 0) rfl (some 4) rfl w.heap.size rfl (vb k) rfl ?_)
    | (refine Go.Great.wpList_boxTo rfl 24 (.tmp 1) rfl (some 5) rfl (w.heap.size + 1) (by simp) (vb nonce) rfl ?_))
  generalize (w.alloc (Obj.cells (vb k) 42)).alloc (Obj.cells (vb nonce) 24) = Z at *
  have HB := Lib.hid hbx.bel
  clear hbx
  go_wp2_with fail
  refine bodyPost_ret (results_tmp2 rfl _ _ _) rfl ?_
  exact ⟨rfl, HB.out⟩
end Go.Proofs.YtldjbbcfbjpfcaaDoor
namespace Go.Proofs.YtldjbbcfbjpfcaaDoor
open Go.RowKit
set_option linter.unusedVariables false
set_option linter.unusedSimpArgs false
set_option maxRecDepth 100000 in
set_option maxHeartbeats 4000000 in
theorem open_c (A1 A2 : Option Addr) (c1 c2 : Nat) (k nonce beside sealed : List Nat) (w : World) (hk : k.length = 32) (hkl : ∀ c ∈ k, c < 256) (hc : nonce.length = 12) (hcl : ∀ c ∈ nonce, c < 256)
    (hr1 : Rd w w.heap.size A1 (byt beside)) (hr2 : Rd w w.heap.size A2 (byt sealed)) (hb1 : ∀ c ∈ beside, c < 256) (hb2 : ∀ c ∈ sealed, c < 256) (hl1 : beside.length ≤ 4200) (h16 : 16 ≤ sealed.length) (hl2 : sealed.length ≤ 4112) (hcap : sealed.length ≤ c2) (hq : QuartersAt w) :
    Calls Tryd.prog 25 #[.agg (vb k), .agg (vb nonce), .slice A1 beside.length c1, .slice A2 sealed.length c2] w fun e w' => ∃ v, e = .returned (.tuple #[v, .int .i64 (openErr k nonce beside sealed : Nat)]) ∧ OwnB w' w.heap.size v (openL k nonce beside sealed) ∧ Below w.heap.size w w' := by
  obtain ⟨ad, rfl, _, _⟩ := hr2.byte (k := 0) (by omega)
  obtain ⟨m, hm⟩ : ∃ m, m = sealed.length - 16 := ⟨_, rfl⟩
  obtain ⟨un, hun⟩ : ∃ un, un = sealed.take m := ⟨_, rfl⟩
  obtain ⟨tl, htl⟩ : ∃ tl, tl = sealed.drop m := ⟨_, rfl⟩
  have hul : un.length = m := by rw [hun, List.length_take]; omega
  have htl16 : tl.length = 16 := by rw [htl, List.length_drop]; omega
  have hunl : ∀ c ∈ un, c < 256 := by rw [hun]; exact fun c hc => hb2 c (List.mem_of_mem_take hc)
  have htll : ∀ c ∈ tl, c < 256 := by rw [htl]; exact drop_lt hb2 _
  have HER := Lib.hid (show openErr k nonce beside sealed = if tagL k nonce beside un == tl then 0 else 5 by unfold openErr; rw [if_neg (by omega), if_neg (by omega), ← hm, ← hun, ← htl])
  have HOL := Lib.hid (show openL k nonce beside sealed = if openErr k nonce beside sealed = 0 then xorL k nonce 1 un else [] by unfold openL; rw [← hm, ← hun])
  have hru : Rd w w.heap.size (some ad) (byt un) := by rw [hun]; exact hr2.take_ m
  have hrt : Rd w w.heap.size (some (ad.add m)) (byt tl) := by rw [htl]; exact hr2.drop_ m
  have f0 : IntKind.i64.wrap ((sealed.length : Int) - 16) = (m : Int) := by simp [IntKind.wrap, IntKind.signed, IntKind.bits]; omega
  have p1 : ¬ (m : Int) < 0 := by omega
  have p2 : ¬ (4096 : Int) < (m : Int) := by omega
  have HIK := Lib.hid (keySz hk)
  have HIN := Lib.hid (show (Tryd.prog.info? 24).map (·.size) = some (vb nonce).size by rw [vb_size, hc]; kernel_rfl)
  have HXC := Lib.hid (show ∀ W, Below w.heap.size w W → Calls Tryd.prog 31 #[.agg (vb k), .agg (vb nonce), .int .u32 1, .slice (some ad) m c2] W (Gives (xorL k nonce 1 un) W) from fun W hW => by
    have h := xor_c w.heap.size (some ad) c2 k nonce 1 un W hk hkl (by decide) hc hcl (hru.below hW) hW.size hunl (by omega) (hq.next hW)
    rw [hul] at h
    exact h)
  have HTC := Lib.hid (show ∀ W, Below w.heap.size w W → Calls Tryd.prog 32 #[.agg (vb k), .agg (vb nonce), .slice A1 beside.length c1, .slice (some ad) m c2] W (fun e w' => e = .returned (.agg (vb (tagL k nonce beside un))) ∧ Below W.heap.size W w') from fun W hW => by
    have h := atag_c A1 (some ad) c1 c2 k nonce beside un W hk hkl hc hcl ((hr1.below hW).more hW.size) ((hru.below hW).more hW.size) hb1 hunl hl1 (by omega) (hq.next hW)
    rw [hul] at h
    exact h)
  have HTT := Lib.hid (tagSz (tagL_len k nonce beside un))
  have HTZ := Lib.hid (show zT.size = (vb (tagL k nonce beside un)).size by rw [vb_size, tagL_len]; rfl)
  have HTN := Lib.hid (tagL_len k nonce beside un)
  have HTB := Lib.hid (show ∀ c ∈ tagL k nonce beside un, c < 256 from form_lt _ _)
  have HSM := Lib.hid (fun W g (hW : Below w.heap.size w W) (hT : Blk W g 71 (vb (tagL k nonce beside un))) => show Calls Tryd.prog 33 #[.slice (some ⟨g, 0, none⟩) 16 16, .slice (some (ad.add m)) 16 (c2 - m)] W (fun e w' => e = .returned (.bool (tagL k nonce beside un == tl)) ∧ W = w') from by
    have h := psame_c (g + 1) w.heap.size (some ⟨g, 0, none⟩) (some (ad.add m)) 16 (c2 - m) (tagL k nonce beside un) tl W (form_lt _ _) htll (rd_all hT) (hrt.below hW) (by rw [tagL_len]; decide) (by omega)
    rw [tagL_len, htl16] at h
    exact h)
  have zt := zero_tag
  have zt1 : zT.size = 16 := by rfl
  have zt2 : ¬ zT = #[] := by intro h; have := congrArg Array.size h; rw [zt1] at this; cases this
  clear hkl hcl hr1 hr2 hb1 hb2 hq hru hrt hunl htll
  have hmc : m ≤ c2 := by omega
  have hms : m ≤ sealed.length := by omega
  have p3 : (m : Int) ≤ (c2 : Int) := by omega
  have p4 : (m : Int) ≤ (sealed.length : Int) := by omega
  have p5 : sealed.length - m = 16 := by omega
  clear hm hun htl
  have hbx := Kbx.begin w k nonce
  go_enter Tryd.func25, Tryd.ntmps25
  go_upto_region 1 with (first
    | (refine Go.Great.wpList_boxTo rfl 42 (.tmp 0) rfl (some 4) rfl w.heap.size rfl (vb k) rfl ?_)
    | (refine Go.Great.wpList_boxTo rfl 24 (.tmp 1) rfl (some 5) rfl (w.heap.size + 1) (by simp) (vb nonce) rfl ?_))
  generalize (w.alloc (Obj.cells (vb k) 42)).alloc (Obj.cells (vb nonce) 24) = Z at *
  have HB := Lib.hid hbx
  clear hbx
  go_upto_region 7 with fail
  go_upto_region 8 with (first
    | (refine wpList_load_row rfl 42 (.tmp 4) rfl w.heap.size rfl 42 (vb k) (0, 0) _ HB.out.kA Tryd.underlying42 rfl HIK.out ?_)
    | (refine wpList_load_row rfl 24 (.tmp 5) rfl (w.heap.size + 1) rfl 24 (vb nonce) (0, 0) _ HB.out.nA Tryd.underlying24 rfl HIN.out ?_)
    | (go_at_call 32; (with_reducible refine (HTC.out Z HB.out.bel).mono ?_); rintro e W1 ⟨rfl, hb⟩; have HB1 := Lib.hid (HB.out.next (hb.mono HB.out.sz)); clear hb)
    | (refine wpList_store_rowTo rfl 71 (.tmp 12) (.tmp 29) rfl rfl W1.heap.size (vb (tagL k nonce beside un)) rfl rfl 71 zT (by exact Blk.new W1 _ _) HTT.out HTZ.out (vb_one _) ?_))
  have hnr := new_row W1 71 zT (vb (tagL k nonce beside un))
  have HB3 := Lib.hid (HB1.out.next (hnr.2.mono HB1.out.sz))
  have HG := Lib.hid hnr.1
  generalize (W1.alloc (Obj.cells zT 71)).setRow W1.heap.size (vb (tagL k nonce beside un)) = W3 at *
  generalize W1.heap.size = gt at *
  clear hnr
  have HSC := Lib.hid (fun n => HSM.out (W3.drewN n) gt (belowDrewN n HB3.out.bel) HG.out)
  go_quiet (first | (go_at_call 33; exact (HSC.out _).mono fun _ _ h => ⟨h.1, _, h.2.symm⟩))
  have HBQ := Lib.hid (show Kbx w (W3.drewN nq) k nonce from HB3.out.next (belowDrewN nq (Below.refl _ _)))
  generalize W3.drewN nq = W4 at *
  clear HB HB1 HB3 HTC HSM HSC HTT HTZ HTB HTN HG
  generalize (tagL k nonce beside un == tl) = bb at *
  by_cases hsm : bb = true
  · have h0 : openErr k nonce beside sealed = 0 := by rw [HER.out, if_pos hsm]
    have hl : openL k nonce beside sealed = xorL k nonce 1 un := by rw [HOL.out, if_pos h0]
    have HE0 := Lib.hid h0
    have HL0 := Lib.hid hl
    have HX4 := Lib.hid (HXC.out W4 HBQ.out.bel)
    clear HER HOL h0 hl HXC
    subst hsm
    go_wp2_with (first
      | (refine wpList_load_row rfl 42 (.tmp 4) rfl w.heap.size rfl 42 (vb k) (0, 0) _ HBQ.out.kA Tryd.underlying42 rfl HIK.out ?_)
      | (refine wpList_load_row rfl 24 (.tmp 5) rfl (w.heap.size + 1) rfl 24 (vb nonce) (0, 0) _ HBQ.out.nA Tryd.underlying24 rfl HIN.out ?_)
      | (go_at_call 31; (refine HX4.out.mono ?_); rintro e W5 ⟨v1, rfl, ho, hb⟩; have HO5 := Lib.hid (own_base_le ho HBQ.out.bel.size); have HB5 := Lib.hid (HBQ.out.bel.trans (hb.mono HBQ.out.bel.size)); clear ho hb))
    refine bodyPost_ret (results_tmp2 rfl _ _ _) rfl ?_
    exact ⟨_, by rw [HE0.out]; rfl, by rw [HL0.out]; exact HO5.out, HB5.out⟩
  · have h5 : openErr k nonce beside sealed = 5 := by rw [HER.out, if_neg hsm]
    have hl : openL k nonce beside sealed = [] := by rw [HOL.out, h5, if_neg (by decide)]
    have hf : bb = false := by simpa using hsm
    have HE0 := Lib.hid h5
    have HL0 := Lib.hid hl
    clear HER HOL h5 hl HXC hsm
    subst hf
    go_wp2_with fail
    refine bodyPost_ret (results_tmp2 rfl _ _ _) rfl ?_
    exact ⟨_, by rw [HE0.out]; rfl, by rw [HL0.out]; exact OwnB.nil_ _ _, HBQ.out.bel⟩
end Go.Proofs.YtldjbbcfbjpfcaaDoor
/- Merged: Rt6 Rt7 Rt8 Rt9 Rta. -/
namespace Go.Proofs.YtldjbbcfbjpfcaaDoor
set_option maxRecDepth 100000
open Go.RowKit
set_option linter.unusedVariables false
set_option linter.unusedSimpArgs false
structure SmAt (N0 H : List Nat) (i : Nat) (O : List Nat) : Prop where
  len : O.length = 11
  lt : ∀ j, O.getD j 0 < 16384
  up : ∀ j, i ≤ j → O.getD j 0 < 8192
  val : V13 O = V13 N0 + V13 (H.take i)
theorem SmAt.step {N0 H O : List Nat} {i : Nat} (h : SmAt N0 H i O) (hi : i < H.length) (h10 : H.length ≤ 10) (hh : H.getD i 0 < 8192) : SmAt N0 H (i + 1) (O.set i (O.getD i 0 + H.getD i 0)) := by
  have hl : i < O.length := by rw [h.len]; omega
  have hu := h.up i (Nat.le_refl _)
  refine ⟨by rw [List.length_set]; exact h.len, fun j => ?_, fun j hj => ?_, ?_⟩
  · rw [getD_set _ _ _ _ hl]
    split
    · omega
    · exact h.lt j
  · rw [getD_set _ _ _ _ hl, if_neg (by omega)]
    exact h.up j (by omega)
  · have h1 := V13_set O i (O.getD i 0 + H.getD i 0) hl
    have h2 := h.val
    rw [Nat.mul_add] at h1
    rw [V13_take H i hi]
    omega
end Go.Proofs.YtldjbbcfbjpfcaaDoor
namespace Go.Proofs.YtldjbbcfbjpfcaaDoor
open Go.RowKit
set_option linter.unusedVariables false
set_option linter.unusedSimpArgs false
structure MlAt (A F : List Nat) (i k : Nat) (O : List Nat) : Prop where
  len : O.length = 22
  bnd : ∀ j, O.getD j 0 ≤ (11 * i + k) * 134193153
  val : V13 O = V13 (A.take i) * V13 F + 8192 ^ i * (A.getD i 0 * V13 (F.take k))
theorem MlAt.zero (A F : List Nat) : MlAt A F 0 0 (List.replicate 22 0) := ⟨rfl, fun j => by rw [rep_at]; omega, by rw [V13_rep, List.take_zero, List.take_zero, V13, Nat.zero_mul, Nat.mul_zero]⟩
theorem MlAt.step {A F O : List Nat} {i k : Nat} (h : MlAt A F i k O) (hi : i < 11) (hk : k < 11) (hF : F.length = 11) (ha : A.getD i 0 ≤ 16383) (hf : F.getD k 0 ≤ 8191) :
    MlAt A F i (k + 1) (O.set (i + k) (O.getD (i + k) 0 + A.getD i 0 * F.getD k 0)) ∧ A.getD i 0 * F.getD k 0 ≤ 134193153 := by
  have hl : i + k < O.length := by rw [h.len]; omega
  have hm : A.getD i 0 * F.getD k 0 ≤ 134193153 := Nat.mul_le_mul ha hf
  refine ⟨⟨by rw [List.length_set]; exact h.len, fun j => ?_, ?_⟩, hm⟩
  · rw [getD_set _ _ _ _ hl]
    have e : (11 * i + (k + 1)) * 134193153 = (11 * i + k) * 134193153 + 134193153 := by rw [← Nat.add_assoc, Nat.add_mul, Nat.one_mul]
    rw [e]
    split
    · exact Nat.add_le_add (h.bnd (i + k)) hm
    · exact Nat.le_trans (h.bnd j) (Nat.le_add_right _ _)
  · have h1 := V13_set O (i + k) (O.getD (i + k) 0 + A.getD i 0 * F.getD k 0) hl
    rw [Nat.mul_add] at h1
    rw [V13_take F k (by omega), Nat.mul_add, Nat.mul_add]
    have h2 := h.val
    have e : 8192 ^ i * (A.getD i 0 * (8192 ^ k * F.getD k 0)) = 8192 ^ (i + k) * (A.getD i 0 * F.getD k 0) := by
      rw [Nat.pow_add, Nat.mul_assoc]
      congr 1
      exact Nat.mul_left_comm _ _ _
    omega
theorem MlAt.row {A F O : List Nat} {i : Nat} (h : MlAt A F i 11 O) (hA : i < A.length) (hF : F.length = 11) : MlAt A F (i + 1) 0 O :=
  ⟨h.len, fun j => by have := h.bnd j; omega, by
    rw [h.val, V13_take A i hA, List.take_of_length_le (l := F) (by omega), List.take_zero, V13, Nat.mul_zero, Nat.mul_zero, Nat.add_zero, Nat.add_mul, Nat.mul_assoc]⟩
end Go.Proofs.YtldjbbcfbjpfcaaDoor
namespace Go.Proofs.YtldjbbcfbjpfcaaDoor
open Go.RowKit
set_option linter.unusedVariables false
set_option linter.unusedSimpArgs false
theorem V13_digit : ∀ (l : List Nat) (j : Nat), (∀ i, l.getD i 0 < 8192) → V13 l / 8192 ^ j % 8192 = l.getD j 0
  | [], j, _ => by simp [V13]
  | c :: l, 0, h => by
    have := h 0
    simp only [V13, List.getD_cons_zero, Nat.pow_zero, Nat.div_one] at *
    omega
  | c :: l, j + 1, h => by
    have h0 := h 0
    have ih := V13_digit l j (fun i => by have := h (i + 1); simpa using this)
    rw [V13, List.getD_cons_succ, ← ih, Nat.pow_succ', ← Nat.div_div_eq_div_mul]
    congr 2
    simp only [List.getD_cons_zero] at h0
    omega
theorem bit13 (x m : Nat) (hm : m < 13) : x % 8192 / 2 ^ m % 2 = x / 2 ^ m % 2 := by
  have : m = 0 ∨ m = 1 ∨ m = 2 ∨ m = 3 ∨ m = 4 ∨ m = 5 ∨ m = 6 ∨ m = 7 ∨ m = 8 ∨ m = 9 ∨ m = 10 ∨ m = 11 ∨ m = 12 := by omega
  rcases this with rfl | rfl | rfl | rfl | rfl | rfl | rfl | rfl | rfl | rfl | rfl | rfl | rfl <;> omega
theorem bit_of (L : List Nat) (h : ∀ i, L.getD i 0 < 8192) (a : Nat) : L.getD (a / 13) 0 / 2 ^ (a % 13) % 2 = V13 L / 2 ^ a % 2 := by
  rw [← V13_digit L (a / 13) h, bit13 _ _ (Nat.mod_lt _ (by decide)), pow13, Nat.div_div_eq_div_mul, ← Nat.pow_add, show 13 * (a / 13) + a % 13 = a by omega]
structure OtAt (S i : Nat) (O : List Nat) : Prop where
  len : O.length = 16
  at_ : ∀ j, j < i → O.getD j 0 = S / 256 ^ j % 256
theorem OtAt.step {S i v : Nat} {O : List Nat} (h : OtAt S i O) (hi : i < 16) (hv : v = S / 256 ^ i % 256) : OtAt S (i + 1) (O.set i v) :=
  ⟨by rw [List.length_set]; exact h.len, fun j hj => by
    rw [getD_set _ _ _ _ (by rw [h.len]; exact hi)]
    split
    · subst_vars; rfl
    · exact h.at_ j (by omega)⟩
theorem OtAt.all {S : Nat} {O : List Nat} (h : OtAt S 16 O) : O = form S 16 :=
  list_ext (by rw [h.len, form_len]) fun j hj => by rw [h.len] at hj; rw [h.at_ j hj, form_at 16 S j hj]
theorem key_at (k : List Nat) (hk : k.length = 32) (hl : ∀ c ∈ k, c < 256) (i : Nat) (hi : i < 16) : k.getD (16 + i) 0 = number (k.drop 16) / 256 ^ i % 256 := by
  have h := byte_of (k.drop 16) (fun c hc => hl c (List.mem_of_mem_drop hc)) i (by rw [List.length_drop, hk]; omega)
  rw [← h, List.getD_eq_getElem?_getD, List.getD_eq_getElem?_getD, List.getElem?_drop]
end Go.Proofs.YtldjbbcfbjpfcaaDoor
namespace Go.Proofs.YtldjbbcfbjpfcaaDoor
open Go.RowKit
set_option linter.unusedVariables false
set_option linter.unusedSimpArgs false
theorem addr_add (a : Addr) (i j : Nat) : (a.add i).add j = a.add (i + j) := by
  unfold Addr.add
  split
  · subst_vars; rw [Nat.add_zero]
  · split
    · subst_vars; rw [if_neg (by omega), Nat.zero_add]
    · rw [if_neg (by omega)]; simp; omega
theorem Rd.sub {w : World} {B : Nat} {ad : Addr} {l : List Nat} (h : Rd w B (some ad) (byt l)) (i n : Nat) : Rd w B (some (ad.add i)) (byt ((l.drop i).take n)) := fun hn => by
  obtain ⟨ad', e, hb, hc⟩ := h (fun h0 => hn (by
    have : l = [] := by cases l with
      | nil => rfl
      | cons c l => simp [byt] at h0
    rw [this]; simp [byt]))
  injection e with e
  subst e
  refine ⟨_, rfl, by rw [add_block]; exact hb, fun j u hu => ?_⟩
  rw [addr_add]
  refine hc _ u ?_
  unfold byt at *
  rw [List.map_take, List.map_drop, List.getElem?_take] at hu
  split at hu
  · rw [List.getElem?_drop] at hu; exact hu
  · cases hu
structure HsAt (r : Nat) (m : List Nat) (q : Nat) (L : List Nat) : Prop where
  len : L.length = 10
  lt : ∀ j, L.getD j 0 < 8192
  val : V13 L % P130 = polA r m q
theorem pow20 : 8192 ^ 20 = P130 * (P130 + 10) + 25 := by decide +kernel
theorem V13_22 (P : List Nat) (h : P.length = 22) : V13 P = V13 (P.take 20) + 8192 ^ 20 * (P.getD 20 0 + 8192 * P.getD 21 0) := by
  have e : P = P.take 22 := by rw [List.take_of_length_le (by omega)]
  have h1 := V13_take P 21 (by omega)
  have h2 := V13_take P 20 (by omega)
  rw [← e] at h1
  rw [h1, h2, Nat.mul_add, Nat.add_assoc]
  congr 2
  rw [show (8192 : Nat) ^ 21 = 8192 ^ 20 * 8192 from Nat.pow_succ .., Nat.mul_assoc]
theorem bl_of (m : List Nat) (q n : Nat) (hn : n = min (16 * q + 16) m.length) : ((m.drop (16 * q)).take 16).length = n - 16 * q := by
  rw [List.length_take, List.length_drop]; omega
theorem round_val (r q : Nat) (m H A P L2 L3 : List Nat) (q1 q2 : Nat) (hH : V13 H % P130 = polA r m q) (hA : V13 A = blkV ((m.drop (16 * q)).take 16) + V13 H) (hP : V13 P = V13 A * r) (hp : P.length = 22)
    (h1 : V13 (P.take 20) = V13 L2 + P130 * q1) (h2 : V13 L2 + 25 * P.getD 20 0 + 8192 * (25 * P.getD 21 0) = V13 L3 + P130 * q2) : V13 L3 % P130 = polA r m (q + 1) := by
  have e1 := V13_22 P hp
  rw [pow20, Nat.add_mul, Nat.mul_assoc] at e1
  have e2 : V13 P = V13 L3 + P130 * (q2 + q1 + (P130 + 10) * (P.getD 20 0 + 8192 * P.getD 21 0)) := by
    rw [Nat.mul_add, Nat.mul_add]
    omega
  have e3 : V13 P % P130 = V13 L3 % P130 := by rw [e2, Nat.add_mul_mod_self_left]
  rw [← e3, hP, hA, polA, ← hH, Nat.mul_mod, Nat.mul_mod (V13 H % P130 + _), Nat.mod_add_mod, Nat.add_comm (blkV _)]
end Go.Proofs.YtldjbbcfbjpfcaaDoor
namespace Go.Proofs.YtldjbbcfbjpfcaaDoor
open Go.RowKit
set_option linter.unusedVariables false
set_option linter.unusedSimpArgs false
theorem zero_t16 (w : World) : (zeroValue 70).run Tryd.prog w = .ok (.agg zT) w := by kernel_rfl
theorem t16Sz {L : List Nat} (h : L.length = 16) : (Tryd.prog.info? 70).map (·.size) = some (vb L).size := by rw [vb_size, h]; kernel_rfl
theorem t16Ln {L : List Nat} (h : L.length = 16) : (Tryd.prog.info? 70).map (·.size) = some (byt L).length := by rw [byt_len, h]; kernel_rfl
end Go.Proofs.YtldjbbcfbjpfcaaDoor
/- Nonces: plain. -/
namespace Go.Proofs.YtldjbbcfbjpfcaaDoor
set_option maxRecDepth 100000
open Go.RowKit
set_option linter.unusedVariables false
set_option linter.unusedSimpArgs false
theorem OwnB.rdAt {w : World} {base : Nat} {A : Option Addr} {n c : Nat} {l : List Nat} (h : OwnB w base (.slice A n c) l) : Rd w w.heap.size A (byt l) := by
  obtain ⟨A', c', e, _, _, h3⟩ := h.rd
  injection e with e1 e2 e3
  rw [e1]; exact h3
theorem results_row_tmp {P : Program} {fn : Func} {p u : Tmp} {ty : TypeId} (h : fn.results = #[.cell p ty, .tmp u]) (tmps : Array Value) (w : World) (g : Nat) (t : TypeId) (cs : Array Value) (fr : Nat × Nat) (d : TypeDesc)
    (hp : tmps.getD p undef = .pointer (some ⟨g, 0, none⟩)) (hg : w.heap[g]? = some (.cells cs t fr))
    (hu : P.underlying ty = some d) (hd : (match d with | .struct _ | .array _ _ => true | _ => false) = true) (hi : (P.info? ty).map (·.size) = some cs.size) :
    (results fn tmps).run P w = .ok (.tuple #[.agg cs, tmps.getD u undef]) w := by
  rw [results_cell_tmp h, hp]
  simp [asAddr, run_loadVar_row w g t ty cs fr d hg hu hd hi, Result.andThen]
def nonL (node count : Nat) : List Nat := form count 8 ++ (form node 2 ++ form 0 2)
theorem nonL_len (node count : Nat) : (nonL node count).length = 12 := by simp [nonL, form_len]
theorem nonL_lt (node count : Nat) : ∀ c ∈ nonL node count, c < 256 := fun c h => by
  simp only [nonL, List.mem_append] at h
  rcases h with h | h | h <;> exact form_lt _ _ c h
def zNl : List Nat := List.replicate 12 0
theorem zero_nonce (w : World) : (zeroValue 24).run Tryd.prog w = .ok (.agg (vb zNl)) w := by kernel_rfl
theorem zero_non12 (w : World) : (zeroValue 23).run Tryd.prog w = .ok (.agg (vb zNl)) w := by kernel_rfl
theorem built_nonce : Tryd.prog.built 24 [] = some (vb zNl) := by kernel_rfl
theorem nonSz {L : List Nat} (h : L.length = 12) : (Tryd.prog.info? 24).map (·.size) = some (vb L).size := by rw [vb_size, h]; kernel_rfl
theorem nonLn {L : List Nat} (h : L.length = 12) : (Tryd.prog.info? 24).map (·.size) = some (byt L).length := by rw [byt_len, h]; kernel_rfl
theorem n12Sz {L : List Nat} (h : L.length = 12) : (Tryd.prog.info? 23).map (·.size) = some (vb L).size := by rw [vb_size, h]; kernel_rfl
theorem tailOf2 (n : Nat) : tailOf n 2 = form n 2 := rfl
end Go.Proofs.YtldjbbcfbjpfcaaDoor
