/- Contract: a share's weight. -/
import Derived.Test.YtldanlglefgobaaPla1
namespace Go.Proofs.Ytldanlglefgobaa
open Go.RowKit
set_option linter.unusedVariables false
theorem quiet_q {P : Program} {f : FuncId} {args : Array Value} {w : World} {n : Nat} {v : Value}
    (h : Calls P f args (w.drewN n) (Quietly v (w.drewN n))) : Calls P f args (w.drewN n) fun e w'' => e = .returned v ∧ ∃ m, w'' = w.drewN m :=
  h.mono fun _ _ ⟨he, m, hm⟩ => ⟨he, n + m, by rw [hm, World.drewN_drewN]⟩
/-- the product of the first k others' places through the differences -/
def wtl (L : List Nat) (i : Nat) : Nat → Nat
  | 0 => 1
  | k + 1 => if k = i then wtl L i k else gm (wtl L i k) (gm (shX L k) (finv (shX L k ^^^ shX L i)))
theorem wtl_lt (L : List Nat) (i k : Nat) : wtl L i k < 256 := by
  induction k with
  | zero => simp [wtl]
  | succ k ih =>
    unfold wtl
    split
    · exact ih
    · exact gm_lt _ _
set_option maxRecDepth 100000 in
set_option maxHeartbeats 2000000 in
theorem weight_c (B n cap i : Nat) (ad : Addr) (L : List Nat) (w : World) (ht : TabAt w B ftab) (hi : i < n) (hn2 : n ≤ 1000) (hcap : n ≤ cap) (hcap2 : cap ≤ 9223372036854775807) (hL : L.length = n * 33) (hl : ∀ c ∈ L, c < 256) (hb : ad.block < w.heap.size) (ha : AtA w ad (byt L)) :
    Calls Try.prog 35 #[.pointer (some ⟨B, 0, none⟩), .slice (some ad) n cap, .int .i64 i] w fun e w' => e = .returned (.int .u8 (wtl L i n : Nat)) ∧ Below w.heap.size w w' := by
  have HA := Lib.hid ha
  have HL := Lib.hid hl
  have HT := Lib.hid ht
  have zs := zero_share
  clear ha hl ht
  go_enter Try.func35, Try.ntmps35
  go_wp2_with fail
  go_loopw [7, 14] (fun v k wr => ∃ j : Nat, j ≤ n ∧ k = .int .i64 j ∧ v = .int .u8 (wtl L i j : Nat) ∧ Below w.heap.size w wr) (fun _ k _ => n - (intOf k).toNat)
  case atStart => exact ⟨0, by omega, rfl, rfl, Below.refl _ _⟩
  case round =>
    rename World => wr
    obtain ⟨k, hk, rfl, rfl, hbel⟩ := hrel
    have HB := Lib.hid hbel
    clear hbel
    have hwl := wtl_lt L i k
    by_cases hlt : k < n
    · have hAt := HA.out.below HB.out hb
      have HRow := Lib.hid (hAt.share k)
      have HAt := Lib.hid hAt
      have hrl : (shR L k).length = 33 := shR_len hL hlt
      have HSB := Lib.hid (share_bytes (shR L k) hrl)
      have HSS := Lib.hid (share_size (shR L k) hrl)
      have HZS := Lib.hid (z33_vb (shR L k) hrl)
      have HRL := Lib.hid hrl
      have HWS := Lib.hid (show wtl L i (k + 1) = if k = i then wtl L i k else gm (wtl L i k) (gm (shX L k) (finv (shX L k ^^^ shX L i))) from rfl)
      clear hAt hrl
      generalize wtl L i k = v at *
      go_upto_region 5 with (first
        | (refine wpList_load_at rfl 48 (.tmp 17) rfl (ad.add (k * 33)) rfl (shR L k) _ HRow.out Try.underlying48 rfl HSB.out ?_)
        | (refine wpList_store_rowTo rfl 48 (.tmp 9) (.tmp 18) rfl rfl wr.heap.size (vb (shR L k)) rfl rfl 48 z33 (by exact heap_alloc_new _ _) HSS.out HZS.out (vb_one _) ?_))
      obtain ⟨Z, hZ⟩ : ∃ Z, Z = (wr.alloc (.cells z33 48)).setRow wr.heap.size (vb (shR L k)) := ⟨_, rfl⟩
      have hbk : Blk Z wr.heap.size 48 (vb (shR L k)) := by rw [hZ]; exact Blk.row (old := z33) (heap_alloc_new wr _)
      have hbz : Below wr.heap.size wr Z := by rw [hZ]; exact Below.setRow ((Below.refl _ _).alloc (Nat.le_refl _) _) (Nat.le_refl _) _
      rw [← hZ]
      have HBZ := Lib.hid (HB.out.trans (hbz.mono HB.out.size))
      by_cases hki : k = i
      · have ti : ((k : Int) == (i : Int)) = true := by rw [hki]; simp
        have hws : wtl L i (k + 1) = v := by rw [HWS.out, if_pos hki]
        have HW2 := Lib.hid hws
        clear hki hws hbk hbz hZ
        go_wp2_with fail
        go_roundw
        case rel =>
          go_light
          exact ⟨k + 1, by omega, by go_num, by rw [HW2.out], HBZ.out⟩
        case measure => simp [intOf]; omega
      · have ti : ((k : Int) == (i : Int)) = false := beq_eq_false_iff_ne.2 (by omega)
        have hws : wtl L i (k + 1) = gm v (gm (shX L k) (finv (shX L k ^^^ shX L i))) := by rw [HWS.out, if_neg hki]
        have HW2 := Lib.hid hws
        have hx0 : (shR L k).getD 0 0 = shX L k := shR_at L k 0 (by omega)
        have d0 : Z.cell? ⟨wr.heap.size, 0, none⟩ = some (.int .u8 (shX L k : Nat)) := by rw [← hx0]; exact (hbk.cell 0).trans (vb_at _ 0 (by rw [HRL.out]; omega))
        have d1 : Z.cell? (ad.add (i * 33)) = some (.int .u8 (shX L i : Nat)) := (hbz.cell (by rw [add_block]; exact Nat.lt_of_lt_of_le hb HB.out.size)).trans (HAt.out.x hL hi)
        have HTZ := Lib.hid (HT.out.below HBZ.out (block_lt_tab HT.out))
        have hxk := shX_lt HL.out k
        have hxi := shX_lt HL.out i
        have hzx : bits BinOp.xor .u8 (shX L k : Nat) (shX L i : Nat) = ((shX L k ^^^ shX L i : Nat) : Int) := u8_xor_nat _ _ hxk hxi
        have hxx := xor_lt256 hxk hxi
        have hii : (i : Int) < (n : Int) := by omega
        clear hki hws hbk hbz hZ hx0
        generalize shX L k = xk at *
        generalize shX L i = xi at *
        generalize xk ^^^ xi = xx at *
        have HXX := Lib.hid (And.intro hxk hxx)
        go_wp2_with fail
        go_quiet (first
          | (go_at_call 17; exact quiet_q (fdiv_c B xk xx _ (HTZ.out.drewN _) hxk hxx)))
        have hqv : gm xk (finv xx) < 256 := gm_lt _ _
        go_wp2_with (go_at_call 16; ((with_reducible refine (fmul_c B v (gm xk (finv xx)) _ (HTZ.out.drewN _) hwl hqv).mono ?_); rintro e w4 ⟨rfl, n4, rfl⟩))
        go_roundw
        case rel =>
          go_light
          exact ⟨k + 1, by omega, by go_num, by rw [HW2.out], belowDrewN _ HBZ.out⟩
        case measure => simp [intOf]; omega
    · have hkn : k = n := by omega
      subst hkn
      go_wp2_with fail
      go_ret
      exact ⟨rfl, HB.out⟩
end Go.Proofs.Ytldanlglefgobaa
