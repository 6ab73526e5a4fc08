/- ShamirBack: the walk, where shares are made. -/
import Derived.Test.YtldanlglefgobaaBck2
namespace Go.Proofs.Ytldanlglefgobaa
open Go.RowKit
set_option linter.unusedVariables false
set_option maxRecDepth 100000 in
set_option maxHeartbeats 2000000 in
theorem back_ok (s d e : List Nat) (n t : Nat) (first : Int) (u : Nat) (cd ce : Nat) (D E : Option Addr) (w : World) (hsl : s.length = 32) (hs : ∀ c ∈ s, c < 256) (hd : ∀ c ∈ d, c < 256) (he : ∀ c ∈ e, c < 256)
    (hrd : Rd w w.heap.size D (byt d)) (hre : Rd w w.heap.size E (byt e)) (hn1 : 1 ≤ n) (hn8 : n ≤ 8) (ht1 : 1 ≤ t) (htn : t ≤ n) (hdl : d.length ≤ 300) (hel : e.length ≤ 300) (hf0 : -9223372036854775808 ≤ first) (hf1 : first ≤ 9223372036854775807) (hu : u < 256) :
    Calls Try.prog 12 #[.agg (vb s), .int .i64 n, .int .i64 t, .slice D d.length cd, .slice E e.length ce, .int .i64 first, .int .u8 u] w (Yes w) := by
  obtain ⟨i0, hi0, hz0, hz1, hz2⟩ := info_parts shInfo
  have t1 : decide ((n : Int) < 1) = false := decide_eq_false (by omega)
  have t2 : decide (8 < (n : Int)) = false := decide_eq_false (by omega)
  have t3 : decide ((t : Int) < 1) = false := decide_eq_false (by omega)
  have t4 : decide ((n : Int) < (t : Int)) = false := decide_eq_false (by omega)
  have t4n : decide (n < t) = false := decide_eq_false (by omega)
  have t5 : decide (300 < d.length) = false := decide_eq_false (by omega)
  have t6 : decide (300 < e.length) = false := decide_eq_false (by omega)
  have t5i : decide (300 < (d.length : Int)) = false := decide_eq_false (by omega)
  have t6i : decide (300 < (e.length : Int)) = false := decide_eq_false (by omega)
  obtain ⟨R, hR⟩ : ∃ R, R = u % 3 := ⟨_, rfl⟩
  have eR : (u : Int) % 3 = (R : Int) := by omega
  have hR3 : R < 3 := by omega
  have HSZ := Lib.hid (key_size s hsl)
  have HSP := Lib.hid (fun W (hr : Rd W W.heap.size D (byt d)) => split_c s d n t cd D W hsl hs hd ht1 htn (by omega) hr (by omega))
  have HRF := Lib.hid (fun (W : World) (base g cap r : Nat) (ho : OwnS W base (.slice (some ⟨g, 0, none⟩) n cap) n (rep (shf s d t n) e t n r)) (hc : n ≤ cap) (hc2 : cap ≤ 9223372036854775807) (hr : Rd W W.heap.size E (byt e)) =>
    refresh_ok n cap ⟨g, 0, none⟩ (rep (shf s d t n) e t n r) t E ce e W (by omega) (by omega) hc hc2 (rep_len s d e t n r) (rep_lt hs hd he t n hn8 r) (own_lt ho g rfl) ho.atA (rep_plc s d e t n r) ht1 (by omega) he (by omega) hr)
  have HBE := Lib.hid (fun r K m (hm : m ≤ n) (htm : t ≤ m) (hK : K < n) => back_eq s d e t n r K m hs hsl hd he ht1 hn8 hm htm hK)
  have HLT := Lib.hid (rep_lt hs hd he t n hn8)
  have HSS := Lib.hid hs
  have HRD := Lib.hid hrd
  have HRE := Lib.hid hre
  have HN := Lib.hid (And.intro hn1 (And.intro hn8 (And.intro ht1 htn)))
  have HPK := Lib.hid (fun W => pick_c first n W hn1 hn8 hf0 hf1)
  clear hs hd he hrd hre hdl hel hf0 hf1 hu hn1 hn8 ht1 htn hR
  go_enter Try.func12, Try.ntmps12
  go_wp2_with (first
    | (refine wpList_load_row rfl 43 (.tmp 7) rfl w.heap.size rfl 43 (vb s) (0, 0) _ (heap_alloc_new w _) Try.underlying43 rfl HSZ.out ?_)
    | (go_at_call 24; ((with_reducible refine (HSP.out _ (by exact ((HRD.out.below ((Below.refl _ _).alloc (Nat.le_refl _) _)).more (by simp)))).mono ?_); rintro e w2 ⟨v, rfl, ho, hb2⟩; have HO := Lib.hid (own_base_le (base' := w.heap.size) ho (by simp)); have HB2 := Lib.hid (((Below.refl w.heap.size w).alloc (Nat.le_refl _) (.cells (vb s) 43)).trans (hb2.mono (by simp))); have HBS := Lib.hid ((Blk.new w 43 (vb s)).below hb2 (by simp)); clear ho hb2)))
  go_loopw [15, 16, 17] (fun l er i wr => ∃ r : Nat, r ≤ R ∧ i = .int .i64 r ∧ er = .int .i64 0 ∧ OwnS wr w.heap.size l n (rep (shf s d t n) e t n r) ∧ Blk wr w.heap.size 43 (vb s) ∧ Below w.heap.size w wr) (fun _ _ i _ => R - (intOf i).toNat)
  case atStart => exact ⟨0, by omega, rfl, rfl, HO.out, HBS.out, HB2.out⟩
  case round =>
    rename World => wr
    obtain ⟨r, hr, rfl, rfl, ho, hbs, hbel⟩ := hrel
    have HO1 := Lib.hid ho
    have HS1 := Lib.hid hbs
    have HB1 := Lib.hid hbel
    clear ho hbs hbel HO HBS HB2
    obtain ⟨g, cap, rfl, hg, hc1, hc2⟩ := HO1.out.open_ (by have := HN.out; omega)
    unfold maxLen at hc2
    by_cases hlt : r < R
    · go_wp2_with (go_at_call 27; ((with_reducible refine (HRF.out _ _ g cap r (by exact HO1.out) hc1 (by omega) (by exact (HRE.out.below HB1.out).more HB1.out.size)).mono ?_); rintro e2 w3 ⟨v, rfl, ho, hb3⟩; have HO3 := Lib.hid (own_base_le (base' := w.heap.size) ho HB1.out.size); have HB3 := Lib.hid (HB1.out.trans (hb3.mono HB1.out.size)); have HS3 := Lib.hid (HS1.out.below hb3 HS1.out.lt); clear ho hb3))
      go_roundw
      case rel =>
        go_light
        exact ⟨r + 1, by omega, by go_num, rfl, HO3.out, HS3.out, HB3.out⟩
      case measure => simp [intOf]; omega
    · go_wp2_with (go_at_call 31; ((with_reducible refine (HPK.out _).mono ?_); rintro e2 w3 ⟨⟨K, hK, rfl⟩, rfl⟩; have HK := Lib.hid hK))
      clear hlt hr
      have HRL := Lib.hid (rep_len s d e t n r)
      have HLT2 := Lib.hid (HLT.out r)
      have HBE2 := Lib.hid (fun m hm htm => HBE.out r K m hm htm HK.out)
      clear HLT HBE
      generalize rep (shf s d t n) e t n r = L at *
      have hn0 : 0 < n := by have := HN.out; omega
      have HAt := Lib.hid HO1.out.atA
      have hgl : g < wr.heap.size := own_lt HO1.out g rfl
      go_loopw [19, 20] (fun o i wz => ∃ m : Nat, m ≤ n ∧ i = .int .i64 m ∧ OwnS wz wr.heap.size o m (pkS L K n m) ∧ Below wr.heap.size wr wz) (fun _ i _ => n - (intOf i).toNat)
      case atStart => exact ⟨0, by omega, rfl, OwnS.nil_ _ _, Below.refl _ _⟩
      case round =>
        rename World => wz
        obtain ⟨m, hm, rfl, ho, hb⟩ := hrel
        have HOZ := Lib.hid ho
        have HBZ := Lib.hid hb
        clear ho hb
        by_cases hlt : m < n
        · obtain ⟨q, hq⟩ : ∃ q, q = (K + m) % n := ⟨_, rfl⟩
          have hqn : q < n := by rw [hq]; exact Nat.mod_lt _ hn0
          have hkm : K + m < 16 := by have := HK.out; have := HN.out; omega
          have eq2 : ((K : Int) + (m : Int)) % (n : Int) = (q : Int) := by rw [hq, Int.natCast_emod, Int.natCast_add]
          have eq1 : ((K : Int) + (m : Int)).tmod (n : Int) = (q : Int) := by
            rw [Int.tmod_eq_emod_of_nonneg (by omega)]
            exact eq2
          have hnz : ((n : Int) == 0) = false := beq_eq_false_iff_ne.2 (by omega)
          have HRow := Lib.hid ((HAt.out.below HBZ.out hgl).share q)
          have hrl : (shR L q).length = 33 := shR_len HRL.out hqn
          have HSB := Lib.hid (share_bytes (shR L q) hrl)
          have hvs : (vb (shR L q)).size = 33 := by rw [vb_size, hrl]
          have HVS := Lib.hid hvs
          have HLN := Lib.hid (show (byt (shR L q)).length = 1 * 33 by rw [byt_len, hrl])
          have HPS := Lib.hid (show pkS L K n (m + 1) = pkS L K n m ++ shR L q by rw [hq]; exact pkS_succ L K n m)
          have hadd : (⟨g, 0, none⟩ : Addr).add (q * 33) = ⟨g, q * 33, none⟩ := by rw [Addr.add_mid, Nat.zero_add]
          rw [hadd] at HRow
          clear hq hrl hvs hadd
          go_upto_region 16 with (first
            | (refine wpList_load_at rfl 48 (.tmp 98) rfl ⟨g, q * 33, none⟩ rfl (shR L q) _ HRow.out Try.underlying48 rfl HSB.out ?_)
            | (refine wpList_buildOne rfl 44 48 (.tmp 99) rfl (vb (shR L q)) rfl i0 (.agg z33) 33 Try.underlying44 hi0 hz0 hz1 HVS.out (by decide) (by decide) ?_)
            | (at_builtin; refine wpList_app _ rfl (.tmp 91) (.tmp 100) _ rfl wr.heap.size 48 i0 (.agg z33) 33 33 Try.underlying44 hi0 hz0 hz1 hz2 rfl (by decide) _ _ _ rfl (own_alloc HOZ.out _) _ _ 1 1 (byt (shR L q)) rfl HLN.out (by exact rd_new _ _ _ _) (byt_one _) (by omega) (by omega) (by exact Nat.le_trans HBZ.out.size (by simp)) ?_; intro v2 w6 hap; have hob := own_alloc HOZ.out (.cells (vb (shR L q)) 48); have HO6 := Lib.hid (show OwnS w6 wr.heap.size v2 (m + 1) (pkS L K n (m + 1)) from (by rw [HPS.out]; have h := hap.own; rw [byt_app] at h; exact h)); have HB6 := Lib.hid ((HBZ.out.alloc HBZ.out.size _).trans (hap.below hob (by exact Nat.le_trans HBZ.out.size (by simp)))); clear hap hob))
          clear HRow HSB HVS HLN HPS eq1 eq2 hqn hkm hnz
          by_cases hmt : m + 1 < t
          · go_wp2_with fail
            go_roundw
            case rel =>
              go_light
              exact ⟨m + 1, by omega, by go_num, HO6.out, HB6.out⟩
            case measure => simp [intOf]; omega
          · obtain ⟨hbe1, hbe2⟩ := HBE2.out (m + 1) (by omega) (by omega)
            obtain ⟨Ao, co, rfl, hco1, hco2, hrs⟩ := HO6.out.rds
            unfold maxLen at hco2
            have hlp : ∀ c ∈ pkS L K n (m + 1), c < 256 := fun c hc => by
              obtain ⟨i, _, h⟩ := List.mem_flatMap.1 hc
              exact shR_lt HLT2.out _ c h
            have hcc := combine_c (m + 1) co Ao (pkS L K n (m + 1)) w6 (by have := HN.out; omega) hco1 (by omega) hlp hrs
            rw [hbe1, hbe2] at hcc
            have HCC := Lib.hid hcc
            have HZK := Lib.hid (key_z32 s hsl)
            have HS6 := Lib.hid ((HS1.out.below HB6.out HS1.out.lt))
            have hz32 := z32_size
            have hz32n := z32_ne
            have zs := zero_key
            have l3 : ∀ W, (Op.equalIn 10000 43 (.agg (vb s)) (.agg (vb s))).run Try.prog W = .ok true W := fun W => by
              have h := run_equalIn_barr (P := Try.prog) Try.underlying43 Try.underlying5 (by kernel_rfl) (by kernel_rfl) s s hsl hsl HSS.out HSS.out W
              rw [beq_self_eq_true] at h
              exact h
            clear hbe1 hbe2 hlp hrs hcc
            go_upto_region 18 with (first
              | (go_at_call 26; ((refine (HCC.out).mono ?_); rintro e2 y1 ⟨rfl, hy1⟩; have HY1 := Lib.hid hy1; clear hy1))
              | (refine wpList_store_rowTo rfl 43 (.tmp 21) (.tmp 109) rfl rfl y1.heap.size (vb s) rfl rfl 43 z32 (by exact heap_alloc_new _ _) HSZ.out HZK.out (vb_one _) ?_))
            obtain ⟨Z1, hZ1⟩ : ∃ Z, Z = (y1.alloc (.cells z32 43)).setRow y1.heap.size (vb s) := ⟨_, rfl⟩
            have K1 := Lib.hid (show Blk Z1 y1.heap.size 43 (vb s) by rw [hZ1]; exact Blk.row (old := z32) (heap_alloc_new y1 _))
            have hbz1 : Below w6.heap.size w6 Z1 := by rw [hZ1]; exact Below.setRow (HY1.out.alloc HY1.out.size _) HY1.out.size _
            have B1 := Lib.hid (HB6.out.trans (hbz1.mono HB6.out.size))
            have O1 := Lib.hid (own_keep (S := fun _ => False) HO6.out (Only.of_below hbz1) (fun _ _ h => h))
            have S1 := Lib.hid (HS6.out.below hbz1 HS6.out.lt)
            rw [← hZ1]
            clear hZ1 hbz1 HY1 HCC
            go_wp2_with (first
              | (refine wpList_load_rowG rfl 43 (.tmp 21) rfl y1.heap.size rfl 43 (vb s) (0, 0) _ K1.out Try.underlying43 rfl HSZ.out ?_)
              | (refine wpList_load_rowG rfl 43 (.tmp 7) rfl w.heap.size rfl 43 (vb s) (0, 0) _ S1.out Try.underlying43 rfl HSZ.out ?_))
            go_roundw
            case rel =>
              go_light
              exact ⟨m + 1, by omega, by go_num, O1.out, B1.out⟩
            case measure => simp [intOf]; omega
        · go_wp2_with (go_at_call 23; ((with_reducible refine (awake08_c _).mono ?_); rintro e2 y4 ⟨rfl, hb4⟩))
          go_ret
          have hbb := HB1.out.trans (HBZ.out.mono HB1.out.size)
          exact ⟨rfl, hbb.trans (hb4.mono hbb.size)⟩
end Go.Proofs.Ytldanlglefgobaa
