/- ShamirCombines: the walk, where shares are refreshed. -/
import Derived.Test.YtldanlglefgobaaCmb4
namespace Go.Proofs.Ytldanlglefgobaa
open Go.RowKit
set_option linter.unusedVariables false
theorem refresh_any (n cap : Nat) (A : Option Addr) (L : List Nat) (t : Nat) (D : Option Addr) (cd : Nat) (d : List Nat) (w : World) (hn2 : n ≤ 1000) (hcap : n ≤ cap) (hcap2 : cap ≤ 9223372036854775807) (hl : ∀ c ∈ L, c < 256) (hr : RdS w w.heap.size A n L) (hp : n ≠ 0 → plc L n = 0)
    (ht : 1 ≤ t) (ht2 : t ≤ 1000000000) (hd : ∀ c ∈ d, c < 256) (hdl : d.length ≤ 1000000) (hrd : Rd w w.heap.size D (byt d)) :
    Calls Try.prog 27 #[.slice A n cap, .int .i64 t, .slice D d.length cd] w (GivesS n (rfL L d t n) 0 w) := by
  rcases Nat.eq_zero_or_pos n with h | h
  · subst h
    exact refresh_nil A D cap d.length cd t w (by omega)
  · obtain ⟨ad, rfl, hb, ha⟩ := hr.open_ h
    exact refresh_ok n cap ad L t D cd d w h hn2 hcap hcap2 hr.1 hl hb ha (hp (by omega)) ht ht2 hd hdl hrd
theorem rsame_rd (n ca cb : Nat) (A B : Option Addr) (L : List Nat) (w : World) (hn2 : n ≤ 1000) (hca : n ≤ ca) (hcb : n ≤ cb) (hca2 : ca ≤ 9223372036854775807) (hcb2 : cb ≤ 9223372036854775807) (hl : ∀ c ∈ L, c < 256) (hA : RdS w w.heap.size A n L) (hB : RdS w w.heap.size B n L) :
    Calls Try.prog 29 #[.slice A n ca, .slice B n cb] w (Quietly (.bool true) w) := by
  rcases Nat.eq_zero_or_pos n with h | h
  · subst h
    exact rsame_nil A B ca cb w
  · obtain ⟨al, rfl, _, ha⟩ := hA.open_ h
    obtain ⟨bl, rfl, _, hb⟩ := hB.open_ h
    exact rsame_c n ca cb al bl L w hn2 hca hcb hca2 hcb2 hA.1 hl ha hb
/-- a share of 0 with a share's values added, the first m places done -/
def hTo (L d : List Nat) (t j m : Nat) : List Nat := (List.range 32).map fun k => if k < m then sy zs32 d t (shX L j) k ^^^ shY L j k else sy zs32 d t (shX L j) k
theorem hTo_len (L d : List Nat) (t j m : Nat) : (hTo L d t j m).length = 32 := by simp [hTo]
theorem hTo_at (L d : List Nat) (t j m k : Nat) (h : k < 32) : (hTo L d t j m).getD k 0 = if k < m then sy zs32 d t (shX L j) k ^^^ shY L j k else sy zs32 d t (shX L j) k := by
  simp [hTo, List.getD_eq_getElem?_getD, h]
theorem hTo_set (L d : List Nat) (t j m : Nat) : (hTo L d t j m).set m (sy zs32 d t (shX L j) m ^^^ shY L j m) = hTo L d t j (m + 1) := by
  apply List.ext_getElem
  · simp [hTo]
  · intro i h1 h2
    simp only [hTo, List.getElem_set, List.getElem_map, List.getElem_range]
    by_cases h : m = i
    · subst h; simp
    · rw [if_neg h]
      by_cases h3 : i < m
      · rw [if_pos h3, if_pos (by omega)]
      · rw [if_neg h3, if_neg (by omega)]
theorem hTo_zero (L d : List Nat) (t j : Nat) : shX L j :: hTo L d t j 0 = shr zs32 d t (shX L j) := by
  unfold shr sys hTo
  congr 1
theorem hTo_all (L d : List Nat) (t j : Nat) : shX L j :: hTo L d t j 32 = rfS L d t j := by
  unfold rfS hTo gTo
  congr 1
  apply List.map_congr_left
  intro k hk
  have : k < 32 := List.mem_range.1 hk
  rw [if_pos this, if_pos this, Nat.xor_comm]
/-- what the law keeps in memory -/
structure CwW (Z : World) (g1 : Nat) (o : Value) (n : Nat) (lo l : List Nat) (wr : World) : Prop where
  b1 : Blk wr g1 48 (vb l)
  oo : OwnS wr Z.heap.size o n lo
  ap : ∀ g, o.ownBlock = some g → g ≠ g1
  bel : Below Z.heap.size Z wr
  hg : Z.heap.size ≤ g1
theorem CwW.drewN {Z wr : World} {g1 n : Nat} {o : Value} {lo l : List Nat} (h : CwW Z g1 o n lo l wr) (m : Nat) : CwW Z g1 o n lo l (wr.drewN m) :=
  ⟨h.b1, own_keep (S := fun _ => False) h.oo (Only.of_below (belowDrewN m (Below.refl _ _))) (fun _ _ h => h), h.ap, belowDrewN m h.bel, h.hg⟩
theorem CwW.set_ {Z wr : World} {g1 n : Nat} {o : Value} {lo l : List Nat} (h : CwW Z g1 o n lo l wr) (i v : Nat) : CwW Z g1 o n lo (l.set i v) (wr.setCell ⟨g1, i, none⟩ (.int .u8 (v : Int))) :=
  ⟨by have := h.b1.set_ i (.int .u8 (v : Int)); rw [vb_set] at this; exact this,
    own_keep (S := fun k => k = g1) h.oo ((Only.refl (fun k => k = g1) _).setCell (fun _ => rfl) _) (fun g hg h2 => h.ap g hg h2), h.ap, h.bel.setCell h.hg _, h.hg⟩
set_option maxRecDepth 100000 in
set_option maxHeartbeats 2000000 in
theorem comb_full (A D : Option Addr) (n cap cd t : Nat) (L d : List Nat) (EC : Int) (RC : List Nat) (w : World) (hn8 : n ≤ 8) (ht1 : 1 ≤ t) (ht12 : t ≤ 12) (hcap : n ≤ cap) (hcap2 : cap ≤ 9223372036854775807) (hl : ∀ c ∈ L, c < 256) (hr : RdS w w.heap.size A n L) (hp : n ≠ 0 → plc L n = 0)
    (hd : ∀ c ∈ d, c < 256) (hdl : d.length ≤ 300) (hrd : Rd w w.heap.size D (byt d)) (hc : CmbC w n cap A RC EC 0) :
    Calls Try.prog 11 #[.slice A n cap, .int .i64 t, .slice D d.length cd] w (Yes w) := by
  obtain ⟨i0, hi0, hz0, hz1, hz2⟩ := info_parts shInfo
  have HC := Lib.hid hc
  have HRF := Lib.hid (fun W (hb : Below w.heap.size w W) => refresh_any n cap A L t D cd d W (by omega) hcap hcap2 hl ⟨hr.1, (hr.2.below hb).more hb.size⟩ hp ht1 (by omega) hd (by omega) ((hrd.below hb).more hb.size))
  have HSH := Lib.hid (fun (x : Nat) W (hx : x < 256) (hb : Below w.heap.size w W) => (show Calls Try.prog 25 #[.agg z32, .int .u8 (x : Int), .int .i64 t, .slice D d.length cd] W fun e w' => e = .returned (.agg (vb (shr zs32 d t x))) ∧ Below W.heap.size W w' from rshare_c zs32 d x t cd D W (by decide) zs32_lt hd hx (by omega) ((hrd.below hb).more hb.size) (by omega)))
  have HSS := Lib.hid (fun (A2 A3 : Option Addr) (ca cb : Nat) W (hca : n ≤ ca) (hcb : n ≤ cb) (hca2 : ca ≤ maxLen) (hcb2 : cb ≤ maxLen) (hA : Rd W W.heap.size A2 (byt (rfL L d t n))) (hB : Rd W W.heap.size A3 (byt (rfL L d t n))) => rsame_rd n ca cb A2 A3 (rfL L d t n) W (by omega) hca hcb hca2 hcb2 (rfL_lt hl hd t n) ⟨rfL_len _ _ _ _, hA⟩ ⟨rfL_len _ _ _ _, hB⟩)
  have HRS := Lib.hid hr
  have HL := Lib.hid hl
  have HD := Lib.hid hd
  have HSZ := Lib.hid (key_size RC hc.hl)
  have HKB := Lib.hid (key_bytes RC hc.hl)
  have HZK := Lib.hid (key_z32 RC hc.hl)
  have zs := zero_key
  have zs1 := zero_arr
  have zs2 := zero_share
  have hz := z32_size
  have hzn := z32_ne
  have zn3 := z33_size
  have ze3 := z33_ne
  have l3 := eq_keys RC hc.hl hc.hs
  have HTL := Lib.hid hc.tl
  have tt : decide ((t : Int) < 1) = false := decide_eq_false (by omega)
  clear hc hr hl hd hrd hp
  go_enter Try.func11, Try.ntmps11
  go_upto_region 4 with (first
    | (go_at_call 26; ((with_reducible refine (HC.out.cb _ (by exact Below.refl _ _)).mono ?_); rintro e w1 ⟨rfl, hb1⟩; have HB1 := Lib.hid hb1; clear hb1))
    | (refine wpList_store_rowTo rfl 43 (.tmp 7) (.tmp 32) rfl rfl w1.heap.size (vb RC) rfl rfl 43 z32 (by exact heap_alloc_new _ _) HSZ.out HZK.out (vb_one _) ?_))
  obtain ⟨Z1, hZ1⟩ : ∃ Z, Z = (w1.alloc (.cells z32 43)).setRow w1.heap.size (vb RC) := ⟨_, rfl⟩
  have K1 := Lib.hid (show Blk Z1 w1.heap.size 43 (vb RC) by rw [hZ1]; exact Blk.row (old := z32) (heap_alloc_new w1 _))
  have B1 := Lib.hid (show Below w.heap.size w Z1 by rw [hZ1]; exact Below.setRow (HB1.out.alloc HB1.out.size _) HB1.out.size _)
  rw [← hZ1]
  clear hZ1 HB1
  generalize w1.heap.size = S at *
  go_upto_region 6 with (first
    | (go_at_call 27; ((with_reducible refine (HRF.out _ B1.out).mono ?_); rintro e w2 ⟨v, rfl, ho, hb2⟩; obtain ⟨A2, c2, rfl, hc2, hc3, hrd2⟩ := own_rd ho; have HO2 := Lib.hid (And.intro hc2 (And.intro hc3 hrd2)); have B2 := Lib.hid (B1.out.trans (hb2.mono B1.out.size)); have K2 := Lib.hid (K1.out.below hb2 K1.out.lt); clear ho hb2 hc2 hc3 hrd2))
    | (go_at_call 28; ((with_reducible refine (HC.out.pl _ B2.out).mono ?_); rintro e w3 ⟨rfl, n3, rfl⟩)))
  obtain ⟨Z3, hZ3⟩ : ∃ Z, Z = w2.drewN n3 := ⟨_, rfl⟩
  have K3 := Lib.hid (show Blk Z3 S 43 (vb RC) by rw [hZ3]; exact K2.out)
  have B3 := Lib.hid (show Below w.heap.size w Z3 by rw [hZ3]; exact belowDrewN n3 B2.out)
  have HO3 := Lib.hid (show n ≤ c2 ∧ c2 ≤ maxLen ∧ Rd Z3 Z3.heap.size A2 (byt (rfL L d t n)) by rw [hZ3]; exact ⟨HO2.out.1, HO2.out.2.1, HO2.out.2.2⟩)
  rw [← hZ3]
  clear hZ3 K1 K2 B1 B2 HRF HO2
  go_upto_region 14 with fail
  go_loopw [12, 13] (fun o i wr => ∃ j : Nat, j ≤ n ∧ i = .int .i64 j ∧ OwnS wr Z3.heap.size o j (rfL L d t j) ∧ Below Z3.heap.size Z3 wr) (fun _ i _ => n - (intOf i).toNat)
  case atStart => exact ⟨0, by omega, rfl, OwnS.nil_ _ _, Below.refl _ _⟩
  case round =>
    rename World => wr
    obtain ⟨j, hj, rfl, ho, hbel⟩ := hrel
    have HO := Lib.hid ho
    have HBW := Lib.hid hbel
    clear ho hbel
    by_cases hlt : j < n
    · obtain ⟨ad, rfl, hab, hA0⟩ := HRS.out.open_ (by omega)
      have HA := Lib.hid (And.intro hab hA0)
      clear hab hA0
      have HAt := Lib.hid ((HA.out.2.below B3.out HA.out.1).below HBW.out (Nat.lt_of_lt_of_le HA.out.1 B3.out.size))
      have cj : wr.cell? (ad.add (j * 33)) = some (.int .u8 (shX L j : Nat)) := HAt.out.x HRS.out.1 hlt
      have hxj := shX_lt HL.out j
      have hjn : (j : Int) < (n : Int) := by omega
      have e65 : decide (j < n) = true := decide_eq_true hlt
      have HXE := Lib.hid (rfl : shX L j = shX L j)
      obtain ⟨x, hx⟩ : ∃ x, x = shX L j := ⟨_, rfl⟩
      have hsl : (shr zs32 d t x).length = 33 := shr_len _ _ _ _
      have HS1 := Lib.hid (share_size (shr zs32 d t x) hsl)
      have HZ1 := Lib.hid (z33_vb (shr zs32 d t x) hsl)
      rw [← hx] at cj hxj
      have HX := Lib.hid hx
      clear hx HXE hsl
      go_upto_region 17 with (first
        | (go_at_call 25; ((with_reducible refine (HSH.out x _ hxj (B3.out.trans (HBW.out.mono B3.out.size))).mono ?_); rintro e w4 ⟨rfl, hb4⟩; have HB4 := Lib.hid hb4; clear hb4))
        | (refine wpList_store_rowTo rfl 48 (.tmp 14) (.tmp 76) rfl rfl w4.heap.size (vb (shr zs32 d t x)) rfl rfl 48 z33 (by exact heap_alloc_new _ _) HS1.out HZ1.out (vb_one _) ?_))
      obtain ⟨V, hV⟩ : ∃ V, V = (w4.alloc (.cells z33 48)).setRow w4.heap.size (vb (shr zs32 d t x)) := ⟨_, rfl⟩
      have hbk : Blk V w4.heap.size 48 (vb (shX L j :: hTo L d t j 0)) := by rw [hV, hTo_zero, ← HX.out]; exact Blk.row (old := z33) (heap_alloc_new w4 _)
      have hbz : Below w4.heap.size w4 V := by rw [hV]; exact Below.setRow ((Below.refl _ _).alloc (Nat.le_refl _) _) (Nat.le_refl _) _
      rw [← hV]
      obtain ⟨g1, hg1⟩ : ∃ g1, g1 = w4.heap.size := ⟨_, rfl⟩
      have hbv : Below wr.heap.size wr V := HB4.out.trans (hbz.mono HB4.out.size)
      have hcw : CwW Z3 g1 _ j (rfL L d t j) (shX L j :: hTo L d t j 0) V := ⟨by rw [hg1]; exact hbk, own_keep (S := fun _ => False) HO.out (Only.of_below hbv) (fun _ _ h => h), fun g h => by have := own_lt HO.out g h; have := HB4.out.size; omega, HBW.out.trans (hbv.mono HBW.out.size), by have := HBW.out.size; have := HB4.out.size; omega⟩
      have HCW := Lib.hid hcw
      try rw [← hg1]
      clear hbk hbz hbv hV hcw HO HBW hg1 HB4 HS1 HZ1 cj HAt
      go_upto_region 18 with fail
      go_loopw [15] (fun i wr5 => ∃ m : Nat, m ≤ 32 ∧ i = .int .i64 m ∧ CwW Z3 g1 _ j (rfL L d t j) (shX L j :: hTo L d t j m) wr5) (fun i _ => 32 - (intOf i).toNat)
      case atStart => exact ⟨0, by omega, rfl, HCW.out⟩
      case round =>
        rename World => wr5
        obtain ⟨m, hm, rfl, hrf⟩ := hrel
        have HC5 := Lib.hid hrf
        clear hrf HCW
        by_cases hm32 : m < 32
        · have hyl : sy zs32 d t x m < 256 := sy_lt zs32_lt HD.out t x m
          have hsy := shY_lt HL.out j m
          have HST := Lib.hid (hTo_set L d t j m)
          have d4 : wr5.cell? ⟨g1, 1 + m, none⟩ = some (.int .u8 (sy zs32 d t x m : Nat)) := by
            have h := (HC5.out.b1.cell (1 + m)).trans (vb_at _ (1 + m) (by simp [hTo_len]; omega))
            rw [Nat.add_comm 1 m, List.getD_cons_succ, hTo_at _ _ _ _ _ _ hm32, if_neg (by omega), ← HX.out] at h
            rw [Nat.add_comm 1 m]
            exact h
          have f4 : wr5.frozen? ⟨g1, 1 + m, none⟩ = false := HC5.out.b1.free (1 + m)
          have hA5 := (HA.out.2.below B3.out HA.out.1).below HC5.out.bel (Nat.lt_of_lt_of_le HA.out.1 B3.out.size)
          have y1 : wr5.cell? (ad.add (j * 33 + (1 + m))) = some (.int .u8 (shY L j m : Nat)) := hA5 _ _ (byt_at (by rw [HRS.out.1]; omega))
          have y2 : wr5.cell? ((ad.add (j * 33)).add (1 + m)) = some (.int .u8 (shY L j m : Nat)) := by rw [Addr.add_add]; exact y1
          have y5 : wr5.cell? ⟨(ad.add (j * 33)).block, (ad.add (j * 33)).off + 1 + m, none⟩ = some (.int .u8 (shY L j m : Nat)) := by
            have e5 : (⟨(ad.add (j * 33)).block, (ad.add (j * 33)).off + 1 + m, none⟩ : Addr) = (ad.add (j * 33)).add (1 + m) := by
              generalize ad.add (j * 33) = p
              cases p
              simp [Addr.add, Nat.add_assoc]
            rw [e5]; exact y2
          have hxc : bits BinOp.xor .u8 (sy zs32 d t x m : Nat) (shY L j m : Nat) = ((sy zs32 d t x m ^^^ shY L j m : Nat) : Int) := u8_xor_nat _ _ hyl hsy
          have hres := xor_lt256 hyl hsy
          have HVV : Hid (sy zs32 d t (shX L j) m ^^^ shY L j m = sy zs32 d t x m ^^^ shY L j m) := Lib.hid (by rw [HX.out])
          clear hA5
          generalize sy zs32 d t x m = y at *
          generalize y ^^^ shY L j m = vv at *
          generalize shY L j m = sv at *
          go_wp2_with fail
          refine wp_region_still_tail 15 (by kernel_rfl) (by kernel_rfl) ?_
          simp only [List.take_succ_cons, List.take_zero, List.drop_succ_cons, List.drop_zero]
          repeat still_step
          try refine wpStill_nil ?_
          change wpList _ _ _ _ _ wr5.drew
          go_wp2_with fail
          go_roundw
          case rel =>
            go_light
            refine ⟨m + 1, by omega, by go_num, ?_⟩
            have h := (HC5.out.set_ (1 + m) vv).drewN 1
            rw [Nat.add_comm 1 m, List.set_cons_succ, ← HVV.out, HST.out] at h
            rw [Nat.add_comm 1 m, ← HVV.out]
            exact h
          case measure => simp [intOf]; omega
        · have hm2 : m = 32 := by omega
          have hc := HC5.out
          rw [hm2, hTo_all] at hc
          have HC2 := Lib.hid hc
          have hrs := rfS_len L d t j
          have HRS5 := Lib.hid (share_size (rfS L d t j) hrs)
          have hvs : (vb (rfS L d t j)).size = 33 := by rw [vb_size, hrs]
          have HVS := Lib.hid hvs
          have HLN := Lib.hid (show (byt (rfS L d t j)).length = 1 * 33 by rw [byt_len, hrs])
          have HSU := Lib.hid (rfL_succ L d t j)
          clear hc hm2 hrs hvs HC5
          go_wp2_with (first
            | (refine wpList_load_row rfl 48 (.tmp 14) rfl g1 rfl 48 (vb (rfS L d t j)) (0, 0) _ HC2.out.b1 Try.underlying48 rfl HRS5.out ?_)
            | (refine wpList_buildOne rfl 44 48 (.tmp 97) rfl (vb (rfS L d t j)) rfl i0 (.agg z33) 33 Try.underlying44 hi0 hz0 hz1 HVS.out (by decide) (by decide) ?_)
            | (at_builtin; refine wpList_app _ rfl (.tmp 96) (.tmp 98) _ rfl Z3.heap.size 48 i0 (.agg z33) 33 33 Try.underlying44 hi0 hz0 hz1 hz2 rfl (by decide) _ _ _ rfl (own_alloc HC2.out.oo _) _ _ 1 1 (byt (rfS L d t j)) rfl HLN.out (by exact rd_new _ _ _ _) (byt_one _) (by omega) (by omega) (by exact Nat.le_trans HC2.out.bel.size (by simp)) ?_; intro v2 w6 hap; have hob := own_alloc HC2.out.oo (.cells (vb (rfS L d t j)) 48); have HO6 := Lib.hid (show OwnS w6 Z3.heap.size v2 (j + 1) (rfL L d t (j + 1)) from (by rw [HSU.out]; have h := hap.own; rw [byt_app] at h; exact h)); have HB6 := Lib.hid ((HC2.out.bel.alloc HC2.out.bel.size _).trans (hap.below hob (by exact Nat.le_trans HC2.out.bel.size (by simp)))); clear hap hob))
          go_roundw
          case rel =>
            go_light
            exact ⟨j + 1, by omega, by go_num, HO6.out, HB6.out⟩
          case measure => simp [intOf]; omega
    · have hjn : j = n := by omega
      have ho := HO.out
      rw [hjn] at ho
      have ejn : decide (j < n) = false := decide_eq_false hlt
      have ejn2 : decide ((j : Int) < (n : Int)) = false := decide_eq_false (by omega)
      obtain ⟨A3, c3, rfl, h3a, h3b, h3r⟩ := own_rd ho
      have HO5 := Lib.hid (And.intro h3a (And.intro h3b h3r))
      have HOM := Lib.hid (show n ≤ c2 ∧ c2 ≤ maxLen ∧ Rd wr wr.heap.size A2 (byt (rfL L d t n)) from ⟨HO3.out.1, HO3.out.2.1, (HO3.out.2.2.below HBW.out).more HBW.out.size⟩)
      clear ho hjn h3a h3b h3r HO
      go_upto_region 24 with (first
        | (go_at_call 29; ((with_reducible refine (HSS.out A2 A3 c2 c3 _ HOM.out.1 HO5.out.1 HOM.out.2.1 HO5.out.2.1 HOM.out.2.2 HO5.out.2.2).mono ?_); rintro e w7 ⟨rfl, n7, rfl⟩)))
      have k7 : Blk wr S 43 (vb RC) := K3.out.below HBW.out K3.out.lt
      have K7 := Lib.hid (show Blk (wr.drewN n7) S 43 (vb RC) from k7)
      clear k7
      have B7 := Lib.hid (show Below w.heap.size w (wr.drewN n7) from belowDrewN n7 (B3.out.trans (HBW.out.mono B3.out.size)))
      generalize wr.drewN n7 = Z7 at *
      clear HOM HO5 HO3 B3 HBW K3
      rcases HTL.out with ⟨h1, h2, h3⟩ | ⟨h1, h2, h3, h4⟩ | ⟨h1, h2, h3, h4⟩
      · subst h1
        have hv : vb RC = z32 := by rw [h2]; rfl
        rw [hv] at K7 HSZ l3
        subst h3
        go_wp2_with (first
          | (refine wpList_load_row rfl 43 (.tmp 7) rfl S rfl 43 z32 (0, 0) _ K7.out Try.underlying43 rfl HSZ.out ?_)
          | (go_at_call 23; ((with_reducible refine (awake08_c _).mono ?_); rintro e w4 ⟨rfl, hb4⟩)))
        go_ret
        exact ⟨rfl, B7.out.trans (hb4.mono B7.out.size)⟩
      · exact absurd rfl h2
      · subst h3
        have hn0 : ((n : Int) == 0) = false := by simp; omega
        go_wp2
        have R1 := Lib.hid (ext_range (w0 := Z7) (rangeAt_blk K7.out))
        have B7h := B7.out
        refine wp_region_class (Ext.wd (w0 := Z7)) (by kernel_rfl) (by kernel_rfl) (Ext.of (Below.refl _ _).drew) ?_
        repeat (first
          | (refine wpQuiet_load_mid rfl 43 (.tmp 7) rfl S 0 rfl RC _ R1.out Try.underlying43 rfl HKB.out _ (by simp only [Act.put, List.setIfInBounds_toArray, List.set_cons_succ, List.set_cons_zero]; rfl) ?_)
          | (go_big_quiet_step ((first
              | (go_at_call 30; with_reducible exact ext_call (h4 _ (B7h.trans ((Ext.bel _).mono B7h.size))))
              | (go_at_call 23; with_reducible exact ext_call (awake08_c _))))))
        refine wpQuiet_nil ?_
        rintro _ ⟨x, rfl⟩
        go_wp2
        go_ret
        exact ⟨rfl, B7.out.trans (x.bel.mono B7.out.size)⟩
end Go.Proofs.Ytldanlglefgobaa
