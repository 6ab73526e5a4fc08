/- Contracts: places; the reference's Places. -/
import Derived.Test.YtldanlglefgobaaAt
import Derived.WalkMore
namespace Go.Proofs.Ytldanlglefgobaa
open Go.RowKit
set_option linter.unusedVariables false
def hasX (L : List Nat) (i k : Nat) : Bool := (List.range k).any fun j => shX L j == shX L i
def dupX (L : List Nat) (k : Nat) : Bool := (List.range k).any fun i => hasX L i i
def zeroX (L : List Nat) (k : Nat) : Bool := (List.range k).any fun i => shX L i == 0
theorem hasX_succ (L : List Nat) (i k : Nat) : hasX L i (k + 1) = (hasX L i k || shX L k == shX L i) := by simp [hasX, List.range_succ]
theorem dupX_succ (L : List Nat) (k : Nat) : dupX L (k + 1) = (dupX L k || hasX L k k) := by simp [dupX, List.range_succ]
theorem zeroX_succ (L : List Nat) (k : Nat) : zeroX L (k + 1) = (zeroX L k || shX L k == 0) := by simp [zeroX, List.range_succ]
theorem hasX_of {L : List Nat} {i j k : Nat} (hj : j < k) (h : shX L j = shX L i) : hasX L i k = true := by
  rw [hasX, List.any_eq_true]
  exact ⟨j, List.mem_range.2 hj, by simpa using h⟩
theorem zeroX_of {L : List Nat} {j k : Nat} (hj : j < k) (h : shX L j = 0) : zeroX L k = true := by
  rw [zeroX, List.any_eq_true]
  exact ⟨j, List.mem_range.2 hj, by simpa using h⟩
def plc (L : List Nat) (n : Nat) : Int := if zeroX L n then 1 else if dupX L n then 7 else 0
theorem shX_lt {L : List Nat} (h : ∀ c ∈ L, c < 256) (i : Nat) : shX L i < 256 := getD_lt h _
theorem shY_lt {L : List Nat} (h : ∀ c ∈ L, c < 256) (i k : Nat) : shY L i k < 256 := getD_lt h _
theorem share_size (l : List Nat) (hl : l.length = 33) : (Try.prog.info? 48).map (·.size) = some (vb l).size := by rw [vb_size, hl]; kernel_rfl
theorem z33_vb (l : List Nat) (hl : l.length = 33) : z33.size = (vb l).size := by rw [z33_size, vb_size, hl]
set_option maxRecDepth 100000 in
set_option maxHeartbeats 2000000 in
theorem places_c (n cap : Nat) (ad : Addr) (L : List Nat) (w : World) (hn : 0 < n) (hn2 : n ≤ 1000) (hcap : n ≤ cap) (hcap2 : cap ≤ 9223372036854775807) (hL : L.length = n * 33) (hl : ∀ c ∈ L, c < 256) (hb : ad.block < w.heap.size) (ha : AtA w ad (byt L)) :
    Calls Try.prog 34 #[.slice (some ad) n cap] w fun e w' => e = .returned (.int .i64 (plc L n)) ∧ Below w.heap.size w w' := by
  have HA := Lib.hid ha
  have HL := Lib.hid hl
  have zs := zero_share
  clear ha hl
  go_enter Try.func34, Try.ntmps34
  go_wp2_with fail
  go_step3
  go_wp2_with fail
  go_step3
  go_wp2_with fail
  go_wp2_with fail
  go_loopw [3, 10] (fun e i wr => ∃ k : Nat, k ≤ n ∧ i = .int .i64 k ∧ e = .int .i64 (if dupX L k then 7 else 0) ∧ zeroX L k = false ∧ Below w.heap.size w wr) (fun _ i _ => n - (intOf i).toNat)
  case atStart => exact ⟨0, by omega, rfl, rfl, rfl, Below.refl _ _⟩
  case round =>
    rename World => wr
    obtain ⟨k, hk, rfl, rfl, hz, hbel⟩ := hrel
    have HZ := Lib.hid hz
    have HB := Lib.hid hbel
    clear hz hbel
    by_cases hlt : k < n
    · have hAt := HA.out.below HB.out hb
      have HRow := Lib.hid (hAt.share k)
      have hrl : (shR L k).length = 33 := shR_len hL hlt
      have HSB := Lib.hid (share_bytes (shR L k) hrl)
      have HSS := Lib.hid (share_size (shR L k) hrl)
      have HZS := Lib.hid (z33_vb (shR L k) hrl)
      have HRL := Lib.hid hrl
      clear hAt hrl
      generalize hE : (if dupX L k = true then (7 : Int) else 0) = E
      have HE := Lib.hid hE
      clear hE
      go_upto_region 5 with (first
        | (refine wpList_load_at rfl 48 (.tmp 13) rfl (ad.add (k * 33)) rfl (shR L k) _ HRow.out Try.underlying48 rfl HSB.out ?_)
        | (refine wpList_store_rowTo rfl 48 (.tmp 5) (.tmp 14) rfl rfl wr.heap.size (vb (shR L k)) rfl rfl 48 z33 (by exact heap_alloc_new _ _) HSS.out HZS.out (vb_one _) ?_))
      obtain ⟨Z, hZ⟩ : ∃ Z, Z = (wr.alloc (.cells z33 48)).setRow wr.heap.size (vb (shR L k)) := ⟨_, rfl⟩
      have hbk : Blk Z wr.heap.size 48 (vb (shR L k)) := by rw [hZ]; exact Blk.row (old := z33) (heap_alloc_new wr _)
      have hbz : Below wr.heap.size wr Z := by rw [hZ]; exact Below.setRow ((Below.refl _ _).alloc (Nat.le_refl _) _) (Nat.le_refl _) _
      rw [← hZ]
      have HBK := Lib.hid hbk
      have HBZ := Lib.hid (HB.out.trans (hbz.mono HB.out.size))
      have hx0 : (shR L k).getD 0 0 = shX L k := shR_at L k 0 (by omega)
      have c0 : Z.cell? ⟨wr.heap.size, 0, none⟩ = some (.int .u8 (shX L k : Nat)) := by rw [← hx0]; exact (hbk.cell 0).trans (vb_at _ 0 (by rw [HRL.out]; omega))
      have hxl := shX_lt HL.out k
      have HZE := Lib.hid (zeroX_succ L k)
      have HDU := Lib.hid (dupX_succ L k)
      have HHS := Lib.hid (fun j => hasX_succ L k j)
      have HZO := Lib.hid (fun (h : shX L k = 0) => zeroX_of (L := L) (k := n) hlt h)
      clear hbk hbz hx0 hZ
      generalize hxk : shX L k = xk at *
      have HXK := Lib.hid hxk
      clear hxk
      by_cases hx0 : xk = 0
      · have hpl : plc L n = 1 := by unfold plc; rw [HZO.out hx0]; rfl
        have HPL := Lib.hid hpl
        have tx : ((xk : Int) == 0) = true := by rw [hx0]; rfl
        clear hpl hx0
        go_wp2_with fail
        rw [Exit.noGoto_ret]
        go_ret
        exact ⟨by rw [HPL.out]; rfl, HBZ.out⟩
      · have tx : ((xk : Int) == 0) = false := beq_eq_false_iff_ne.2 (by omega)
        have hz1 : zeroX L (k + 1) = false := by
          rw [HZE.out, HZ.out, Bool.false_or]
          simpa using hx0
        have HZ1 := Lib.hid hz1
        clear hx0 hz1
        go_wp2_with fail
        go_loopw [3, 22] (fun ee j wr2 => ∃ m : Nat, m ≤ k ∧ j = .int .i64 m ∧ ee = .int .i64 E ∧ hasX L k m = false ∧ Below Z.heap.size Z wr2) (fun _ j _ => k - (intOf j).toNat)
        case atStart => exact ⟨0, by omega, rfl, rfl, rfl, Below.refl _ _⟩
        case round =>
          rename World => wr2
          obtain ⟨m, hm, rfl, rfl, hhas, hb2⟩ := hrel
          have HHM := Lib.hid hhas
          have HB2 := Lib.hid hb2
          clear hhas hb2
          by_cases hmk : m < k
          · have hAt := HA.out.below (HBZ.out.trans (HB2.out.mono HBZ.out.size)) hb
            have HRow2 := Lib.hid (hAt.share m)
            have hrl : (shR L m).length = 33 := shR_len hL (by omega)
            have HSB2 := Lib.hid (share_bytes (shR L m) hrl)
            have HSS2 := Lib.hid (share_size (shR L m) hrl)
            have HZS2 := Lib.hid (z33_vb (shR L m) hrl)
            have HRL2 := Lib.hid hrl
            clear hAt hrl
            go_upto_region 10 with (first
              | (refine wpList_load_at rfl 48 (.tmp 24) rfl (ad.add (m * 33)) rfl (shR L m) _ HRow2.out Try.underlying48 rfl HSB2.out ?_)
              | (refine wpList_store_rowTo rfl 48 (.tmp 7) (.tmp 25) rfl rfl wr2.heap.size (vb (shR L m)) rfl rfl 48 z33 (by exact heap_alloc_new _ _) HSS2.out HZS2.out (vb_one _) ?_))
            obtain ⟨V, hV⟩ : ∃ V, V = (wr2.alloc (.cells z33 48)).setRow wr2.heap.size (vb (shR L m)) := ⟨_, rfl⟩
            have hbk : Blk V wr2.heap.size 48 (vb (shR L m)) := by rw [hV]; exact Blk.row (old := z33) (heap_alloc_new wr2 _)
            have hbv : Below wr2.heap.size wr2 V := by rw [hV]; exact Below.setRow ((Below.refl _ _).alloc (Nat.le_refl _) _) (Nat.le_refl _) _
            rw [← hV]
            have hbv2 : Below Z.heap.size Z V := HB2.out.trans (hbv.mono HB2.out.size)
            have HBV := Lib.hid hbv2
            have hx0 : (shR L m).getD 0 0 = shX L m := shR_at L m 0 (by omega)
            have d0 : V.cell? ⟨wr2.heap.size, 0, none⟩ = some (.int .u8 (shX L m : Nat)) := by rw [← hx0]; exact (hbk.cell 0).trans (vb_at _ 0 (by rw [HRL2.out]; omega))
            have d1 : V.cell? ⟨wr.heap.size, 0, none⟩ = some (.int .u8 (xk : Nat)) := (hbv2.cell (by exact cellLt c0)).trans c0
            have hml := shX_lt HL.out m
            have HHN := Lib.hid (HHS.out m)
            have HOF := Lib.hid (fun (h : shX L m = xk) => hasX_of (L := L) (i := k) hmk (by rw [h, HXK.out]))
            clear hbk hbv hbv2 hx0 hV
            generalize shX L m = xm at *
            by_cases he : xm = xk
            · have te : ((xm : Int) == (xk : Int)) = true := by rw [he]; simp
              have hd1 : dupX L (k + 1) = true := by rw [HDU.out, HOF.out he, Bool.or_true]
              have HD1 := Lib.hid hd1
              clear he hd1
              go_wp2_with fail
              go_roundw
              case rel =>
                go_light
                exact ⟨k + 1, by omega, by go_num, by rw [HD1.out]; rfl, HZ1.out, HBZ.out.trans (HBV.out.mono HBZ.out.size)⟩
              case measure => simp [intOf]; omega
            · have te : ((xm : Int) == (xk : Int)) = false := beq_eq_false_iff_ne.2 (by omega)
              have hh1 : hasX L k (m + 1) = false := by rw [HHN.out, HHM.out, Bool.false_or]; simpa using he
              have HH1 := Lib.hid hh1
              clear he hh1
              go_wp2_with fail
              go_roundw
              case rel =>
                go_light
                exact ⟨m + 1, by omega, by go_num, rfl, HH1.out, HBV.out⟩
              case measure => simp [intOf]; omega
          · have hmk2 : m = k := by omega
            have hd1 : dupX L (k + 1) = dupX L k := by
              have := HHM.out
              rw [hmk2] at this
              rw [HDU.out, this, Bool.or_false]
            have HD1 := Lib.hid hd1
            clear hd1 hmk2
            go_wp2_with fail
            go_roundw
            case rel =>
              go_light
              exact ⟨k + 1, by omega, by go_num, by rw [HD1.out, HE.out], HZ1.out, HBZ.out.trans (HB2.out.mono HBZ.out.size)⟩
            case measure => simp [intOf]; omega
    · have hkn : k = n := by omega
      have hz := HZ.out
      rw [hkn] at hz
      have hpl : plc L n = (if dupX L k = true then (7 : Int) else 0) := by unfold plc; rw [hz, hkn]; rfl
      have HPL := Lib.hid hpl
      clear hpl hz hkn
      generalize (if dupX L k = true then (7 : Int) else 0) = E at *
      go_wp2_with fail
      rw [Exit.noGoto_ret]
      go_ret
      exact ⟨by rw [HPL.out]; rfl, HB.out⟩
end Go.Proofs.Ytldanlglefgobaa
