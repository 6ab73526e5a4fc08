/- BoxApart returns true for any two boxes and any cut. Conditions: the table of the quarters is as its initialiser lays it. -/
import Derived.Test.YtldjbbcfbjpfcaaDoorZ07
import Derived.Test.YtldjbbcfbjpfcaaDoorTie
import Derived.Test.YtldjbbcfbjpfcaaDoorCards
import Derived.Deep.CutRange
import Derived.Laws.CopyRow
import Derived.Laws.IdiomCopy
import Derived.SevenTiedAt
/- Contract: a box is laid. -/
namespace Go.Proofs.YtldjbbcfbjpfcaaDoor
open Go.RowKit
set_option linter.unusedVariables false
set_option linter.unusedSimpArgs false
def putBx (zo : List Nat) (t : ByteArray) (ep : Nat) (nn body : List Nat) : List Nat := (((((zo ++ sh t.size) ++ sby t) ++ form ep 4) ++ nn) ++ sh body.length) ++ body
theorem putBx_len (zo : List Nat) (t : ByteArray) (ep : Nat) (nn body : List Nat) : (putBx zo t ep nn body).length = zo.length + (sh t.size).length + t.size + 4 + nn.length + (sh body.length).length + body.length := by
  unfold putBx; simp only [List.length_append, form_len, sby_size]
theorem bx_rdN {w : World} {g : Nat} {T : TypeId} {t : ByteArray} {ep : Nat} {nn : List Nat} {A : Option Addr} {n c : Nat} (h : Blk w g T (bxV t ep nn A n c)) : Rd w (g + 1) (some ⟨g, 2, none⟩) (byt nn) := fun _ =>
  ⟨_, rfl, Nat.lt_succ_self _, fun j u hu => by
    have e1 : (Addr.add ⟨g, 2, none⟩ j) = ⟨g, 2 + j, none⟩ := by
      unfold Addr.add; split
      · subst_vars; rfl
      · rfl
    rw [e1]
    exact bx_nonce h j u hu⟩
set_option maxRecDepth 100000 in
set_option maxHeartbeats 4000000 in
theorem putBx_c (A0 : Option Addr) (c0 : Nat) (zo nn body : List Nat) (t : ByteArray) (ep : Nat) (A : Option Addr) (c : Nat) (w : World) (hn : nn.length = 12) (he : ep < 4294967296)
    (hr0 : Rd w w.heap.size A0 (byt zo)) (h0 : zo.length ≤ 10000) (hr : Rd w w.heap.size A (byt body)) (hck : checkB t body.length = true) :
    Calls Tryd.prog 6 #[.slice A0 zo.length c0, .agg (bxV t ep nn A body.length c)] w (Gives (putBx zo t ep nn body) w) := by
  obtain ⟨i0, hi, hz0, hz1, hz2⟩ := info_parts byteInfo
  have hck2 := hck
  unfold checkB at hck2
  simp only [Bool.and_eq_true, decide_eq_true_eq] at hck2
  obtain ⟨hnm, h16, h4112⟩ := hck2
  have hts : t.size ≤ 24 := by
    unfold nameB at hnm
    simp only [Bool.and_eq_true, decide_eq_true_eq] at hnm
    exact hnm.2.2
  have HBS := Lib.hid (bxSz t ep (nn := nn) A body.length c hn)
  have HCH := Lib.hid (fun W => check16_c t ep nn A body.length c W hn (by omega) (by omega))
  rw [hck, show okE true = 0 from rfl] at HCH
  obtain ⟨Z, hZ⟩ : ∃ Z, Z = w.alloc (Obj.cells (bxV t ep nn A body.length c) 27) := ⟨_, rfl⟩
  have HBZ := Lib.hid (show Below w.heap.size w Z by rw [hZ]; exact (Below.refl _ _).alloc (Nat.le_refl _) _)
  have HAZ := Lib.hid (show Blk Z w.heap.size 27 (bxV t ep nn A body.length c) by rw [hZ]; exact Blk.new w _ _)
  have hsl : ∀ n, n ≤ 100000 → (sh n).length ≤ 10 := fun n hn => sh64 n (by omega)
  have hs1 := hsl t.size (by omega)
  have hs2 := hsl body.length (by omega)
  have f1 : IntKind.u64.wrap (t.size : Int) = (t.size : Int) := by rw [IntKind.wrap_u64]; omega
  have f2 : IntKind.u64.wrap (ep : Int) = (ep : Int) := by rw [IntKind.wrap_u64]; omega
  have f3 : IntKind.u64.wrap (body.length : Int) = (body.length : Int) := by rw [IntKind.wrap_u64]; omega
  obtain ⟨x1, hx1⟩ : ∃ x, x = zo ++ sh t.size := ⟨_, rfl⟩
  have HP1 := Lib.hid (fun W (h : Rd W W.heap.size A0 (byt zo)) => show Calls Tryd.prog 16 #[.slice A0 zo.length c0, .int .u64 (t.size : Nat)] W (Gives x1 W) by rw [hx1]; exact putSh_c W.heap.size A0 c0 zo t.size W h (by omega) (by omega))
  have hl1 : x1.length ≤ 10010 := by rw [hx1, List.length_append]; omega
  obtain ⟨x2, hx2⟩ : ∃ x, x = x1 ++ sby t := ⟨_, rfl⟩
  have hl2 : x2.length ≤ 10034 := by rw [hx2, List.length_append, sby_size]; omega
  obtain ⟨x3, hx3⟩ : ∃ x, x = x2 ++ form ep 4 := ⟨_, rfl⟩
  have HP3 := Lib.hid (fun W A1 c1 (h : Rd W W.heap.size A1 (byt x2)) => show Calls Tryd.prog 17 #[.slice A1 x2.length c1, .int .u64 (ep : Nat), .int .i64 4] W (Gives x3 W) by
    have h2 := put_c W.heap.size A1 c1 x2 ep 4 W h (by omega) (by decide) (by decide) (by omega)
    rw [tailOf4, ← hx3] at h2
    exact h2)
  have hl3 : x3.length ≤ 10038 := by rw [hx3, List.length_append, form_len]; omega
  obtain ⟨x4, hx4⟩ : ∃ x, x = x3 ++ nn := ⟨_, rfl⟩
  have hl4 : x4.length ≤ 10050 := by rw [hx4, List.length_append]; omega
  obtain ⟨x5, hx5⟩ : ∃ x, x = x4 ++ sh body.length := ⟨_, rfl⟩
  have HP5 := Lib.hid (fun W A1 c1 (h : Rd W W.heap.size A1 (byt x4)) => show Calls Tryd.prog 16 #[.slice A1 x4.length c1, .int .u64 (body.length : Nat)] W (Gives x5 W) by rw [hx5]; exact putSh_c W.heap.size A1 c1 x4 body.length W h (by omega) (by omega))
  have hl5 : x5.length ≤ 10060 := by rw [hx5, List.length_append]; omega
  have HX2 := Lib.hid hx2
  have HX4 := Lib.hid hx4
  have HPL := Lib.hid (show putBx zo t ep nn body = x5 ++ body by rw [hx5, hx4, hx3, hx2, hx1]; rfl)
  have HT := Lib.hid hts
  have HA1 := Lib.hid (show x1.length + t.size ≤ maxLen by simp only [maxLen]; omega)
  have HA2 := Lib.hid (show x1.length + t.size ≤ 140737488355328 by omega)
  have HR0 := Lib.hid (fun W (hb : Below w.heap.size w W) => Rd.ups (Rd.below hr0 hb) hb.size)
  have HR := Lib.hid (fun W (hb : Below w.heap.size w W) => Rd.ups (Rd.below hr hb) hb.size)
  have HN12 := Lib.hid hn
  clear hx1 hx2 hx3 hx4 hx5 hr hr0 hnm h16 hck hsl hs1 hs2
  go_enter Tryd.func6, Tryd.ntmps6
  go_upto_region 1 with (refine Go.Great.wpList_boxTo rfl 27 (.tmp 1) rfl (some 3) rfl w.heap.size rfl (bxV t ep nn A body.length c) rfl ?_)
  rw [← hZ]
  clear hZ
  go_upto_region 3 with (first
    | (refine wpList_load_row rfl 27 (.tmp 3) rfl w.heap.size rfl 27 (bxV t ep nn A body.length c) (0, 0) _ HAZ.out Tryd.underlying27 rfl HBS.out ?_)
    | (go_at_call 14; (refine (HCH.out Z).mono ?_); rintro e W2 ⟨rfl, hb⟩; have HA2' := Lib.hid (HAZ.out.below hb HAZ.out.lt); have HB2 := Lib.hid (HBZ.out.trans (hb.mono HBZ.out.size)); clear hb))
  have d0 := cell_ext (show W2.cell? ⟨w.heap.size, 0, none⟩ = some (.string t) from (HA2'.out.cell 0).trans (bx_c0 ..))
  refine wp_region_loudTail 8 W2 [16] (fun _ u W => OwnB W W2.heap.size u x1) (by kernel_rfl) (by kernel_rfl) (by kernel_rfl) (by kernel_rfl) (fun k u w1 w2 h hb => OwnB.next h hb) (Below.refl _ _).drew ?_
  simp only [List.take_succ_cons, List.take_zero, List.drop_succ_cons, List.drop_zero]
  repeat (first
    | (refine wpLoud_valDP 14 rfl rfl (by kernel_rfl) (fun _ _ h => by cases h) (.int .i64 (t.size : Nat)) (fun x => by kernel_rfl) _ (by simp only [Act.put, List.setIfInBounds_toArray, List.set_cons_succ, List.set_cons_zero]; rfl) ?_)
    | (refine wpLoud_call 16 rfl [] tok 16 (fun g => #[.slice A0 zo.length c0, .int .u64 (t.size : Int)]) rfl (fun _ _ h => by cases h) rfl (fun g w => by kernel_rfl) (fun g y hg => by
        refine (HP1.out y.wd (HR0.out y.wd (HB2.out.trans (y.bel.mono HB2.out.size)))).mono ?_
        rintro e w' ⟨u, rfl, ho, hb⟩
        exact ⟨u, rfl, hb, own_base_le ho y.bel.size⟩) _ (by simp only [Act.put, List.setIfInBounds_toArray, List.set_cons_succ, List.set_cons_zero]; rfl) ?_)
    | (refine wpLoud_plain rfl rfl rfl ?_; intro K hK; go_big_quiet_op; go_big_quiet_on))
  refine wpLoud_end [16] (by rfl) ?_
  intro gg z hg
  have h1 : OwnB z.wd W2.heap.size (gg 16) x1 := hg 16 (by simp)
  have HO3 := Lib.hid h1
  have HA3 := Lib.hid (HA2'.out.below z.bel HA2'.out.lt)
  have HB3 := Lib.hid z.bel
  generalize z.wd = W3 at *
  simp only [fill, Act.put, List.setIfInBounds_toArray, List.set_cons_succ, List.set_cons_zero]
  clear hg h1 d0
  generalize gg 16 = v3 at *
  refine Lib.wpList_append_own_string _ rfl (.tmp 16) (.tmp 18) 25 9 rfl W2.heap.size 5 i0 Tryd.underlying25 Tryd.underlying9 hi hz0 hz1 hz2 v3 x1.length (byt x1) rfl HO3.out t rfl HA1.out HA2.out HB3.out.size ?_
  intro v4 W4 ho hgr _
  have HO4 := Lib.hid (show OwnB W4 W2.heap.size v4 x2 by rw [HX2.out]; exact own_str ho)
  have HB34 := Lib.hid (below_grown HO3.out hgr HB3.out.size)
  have HB4 := Lib.hid (HB3.out.trans HB34.out)
  have HA4 := Lib.hid (HA3.out.below HB34.out HA2'.out.lt)
  clear ho hgr HB34 HO3
  obtain ⟨A4, c4, rfl, _, _, _⟩ := HO4.out.rd
  simp only [Act.put, List.setIfInBounds_toArray, List.set_cons_succ, List.set_cons_zero]
  go_upto_region 4 with fail
  have c1 := cell_ext (show W4.cell? ⟨w.heap.size, 1, none⟩ = some (.int .u32 (ep : Int)) from (HA4.out.cell 1).trans (bx_c1 ..))
  refine wp_region_loudTail 7 W4 [24] (fun _ u W => OwnB W W4.heap.size u x3) (by kernel_rfl) (by kernel_rfl) (by kernel_rfl) (by kernel_rfl) (fun k u w1 w2 h hb => OwnB.next h hb) (Below.refl _ _).drew ?_
  simp only [List.take_succ_cons, List.take_zero, List.drop_succ_cons, List.drop_zero]
  repeat (first
    | (refine wpLoud_call 24 rfl [] tok 17 (fun g => #[.slice A4 x2.length c4, .int .u64 (ep : Int), .int .i64 4]) rfl (fun _ _ h => by cases h) rfl (fun g w => by kernel_rfl) (fun g y hg => by
        obtain ⟨A9, c9, e9, _, _, r9⟩ := (HO4.out.next y.bel).rd
        injection e9 with e9a _ e9c
        subst e9a e9c
        refine (HP3.out y.wd A4 c4 r9).mono ?_
        rintro e w' ⟨u, rfl, ho, hb⟩
        exact ⟨u, rfl, hb, own_base_le ho y.bel.size⟩) _ (by simp only [Act.put, List.setIfInBounds_toArray, List.set_cons_succ, List.set_cons_zero]; rfl) ?_)
    | (refine wpLoud_plain rfl rfl rfl ?_; intro K hK; go_big_quiet_op; go_big_quiet_on))
  refine wpLoud_end [24] (by rfl) ?_
  intro gg z hg
  have h1 : OwnB z.wd W4.heap.size (gg 24) x3 := hg 24 (by simp)
  have HO5 := Lib.hid h1
  have HB45 := Lib.hid z.bel
  have HA5 := Lib.hid (HA4.out.below z.bel HA4.out.lt)
  generalize z.wd = W5 at *
  simp only [fill, Act.put, List.setIfInBounds_toArray, List.set_cons_succ, List.set_cons_zero]
  clear hg h1 c1 HO4
  generalize gg 24 = v5 at *
  have HRN := Lib.hid (show Rd W5 (w.heap.size + 1) (some ⟨w.heap.size, 2, none⟩) (byt nn) from bx_rdN HA5.out)
  refine wpList_app _ rfl (.tmp 24) (.tmp 26) _ rfl W4.heap.size 5 i0 (.int .u8 0) 1 1 Tryd.underlying25 hi hz0 hz1 hz2 rfl (by decide) v5 x3.length (byt x3) rfl HO5.out _ (some ⟨w.heap.size, 2, none⟩) 12 12 (byt nn) rfl (by rw [byt_len, HN12.out]) HRN.out (byt_one nn) (by omega) (by omega) HB45.out.size ?_
  intro v6 W6 hap
  have HO6 := Lib.hid (show OwnB W6 W4.heap.size v6 x4 by
    rw [HX4.out]
    have h := OwnB.app (l := x3) (m := nn) (w' := W6) (base := W4.heap.size) (v := v5) (v' := v6) (w := W5) (by rw [HN12.out]; exact hap)
    exact h)
  have HB56 := Lib.hid (hap.below HO5.out HB45.out.size)
  have HB46 := Lib.hid (HB45.out.trans HB56.out)
  have HA6 := Lib.hid (HA5.out.below HB56.out HA4.out.lt)
  clear hap HB56 HO5
  obtain ⟨A6, c6, rfl, _, _, _⟩ := HO6.out.rd
  simp only [Act.put, List.setIfInBounds_toArray, List.set_cons_succ, List.set_cons_zero]
  go_upto_region 5 with fail
  have c14 := cell_ext (show W6.cell? ⟨w.heap.size, 14, none⟩ = some (.slice A body.length c) from (HA6.out.cell 14).trans (bx_c14 _ _ _ _ _ HN12.out))
  refine wp_region_loudTail 8 W6 [33] (fun _ u W => OwnB W W6.heap.size u x5) (by kernel_rfl) (by kernel_rfl) (by kernel_rfl) (by kernel_rfl) (fun k u w1 w2 h hb => OwnB.next h hb) (Below.refl _ _).drew ?_
  simp only [List.take_succ_cons, List.take_zero, List.drop_succ_cons, List.drop_zero]
  repeat (first
    | (refine wpLoud_valDP 31 rfl rfl (by kernel_rfl) (fun _ _ h => by cases h) (.int .i64 (body.length : Nat)) (fun x => by kernel_rfl) _ (by simp only [Act.put, List.setIfInBounds_toArray, List.set_cons_succ, List.set_cons_zero]; rfl) ?_)
    | (refine wpLoud_call 33 rfl [] tok 16 (fun g => #[.slice A6 x4.length c6, .int .u64 (body.length : Int)]) rfl (fun _ _ h => by cases h) rfl (fun g w => by kernel_rfl) (fun g y hg => by
        obtain ⟨A9, c9, e9, _, _, r9⟩ := (HO6.out.next y.bel).rd
        injection e9 with e9a _ e9c
        subst e9a e9c
        refine (HP5.out y.wd A6 c6 r9).mono ?_
        rintro e w' ⟨u, rfl, ho, hb⟩
        exact ⟨u, rfl, hb, own_base_le ho y.bel.size⟩) _ (by simp only [Act.put, List.setIfInBounds_toArray, List.set_cons_succ, List.set_cons_zero]; rfl) ?_)
    | (refine wpLoud_plain rfl rfl rfl ?_; intro K hK; go_big_quiet_op; go_big_quiet_on))
  refine wpLoud_end [33] (by rfl) ?_
  intro gg z hg
  have h1 : OwnB z.wd W6.heap.size (gg 33) x5 := hg 33 (by simp)
  have HO7 := Lib.hid h1
  have HB67 := Lib.hid z.bel
  generalize z.wd = W7 at *
  simp only [fill, Act.put, List.setIfInBounds_toArray, List.set_cons_succ, List.set_cons_zero]
  clear hg h1 c14 HO6
  generalize gg 33 = v7 at *
  have HB26 := Lib.hid (show Below W2.heap.size W2 W6 from HB4.out.trans (HB46.out.mono HB4.out.size))
  have HBw6 := Lib.hid (show Below w.heap.size w W6 from HB2.out.trans (HB26.out.mono HB2.out.size))
  have HBw7 := Lib.hid (show Below w.heap.size w W7 from HBw6.out.trans (HB67.out.mono HBw6.out.size))
  refine wpList_app _ rfl (.tmp 33) (.tmp 35) _ rfl W6.heap.size 5 i0 (.int .u8 0) 1 1 Tryd.underlying25 hi hz0 hz1 hz2 rfl (by decide) v7 x5.length (byt x5) rfl HO7.out _ A body.length c (byt body) rfl (by rw [byt_len]; omega) (HR.out W7 HBw7.out) (byt_one body) (by omega) (by omega) HB67.out.size ?_
  intro v8 W8 hap
  have HO8 := Lib.hid (show OwnB W8 W6.heap.size v8 (x5 ++ body) from OwnB.app hap)
  have HB8 := Lib.hid (show Below w.heap.size w W8 from HBw7.out.trans ((hap.below HO7.out HB67.out.size).mono HBw6.out.size))
  clear hap HO7
  simp only [Act.put, List.setIfInBounds_toArray, List.set_cons_succ, List.set_cons_zero]
  go_wp2_with fail
  go_ret
  exact ⟨_, rfl, by rw [HPL.out]; exact own_base_le HO8.out HBw6.out.size, HB8.out⟩
end Go.Proofs.YtldjbbcfbjpfcaaDoor
/- Plain: the form of a box is read back; a beginning of it is too short. -/
namespace Go.Proofs.YtldjbbcfbjpfcaaDoor
set_option linter.unusedVariables false
set_option linter.unusedSimpArgs false
/-- read a short number: the number, what is left, the error -/
def shP (r : List Nat) (e : Nat) : Nat × List Nat × Nat := if e = 0 then ((gsF 0 0 r).1, r.drop (gsF 0 0 r).2.1, (gsF 0 0 r).2.2) else (0, r, e)
/-- read so many bytes: they, what is left, the error -/
def byP (n : Nat) (r : List Nat) (e : Nat) : List Nat × List Nat × Nat := if e = 0 then (if r.length < n then ([], r, 2) else (r.take n, r.drop n, 0)) else ([], r, e)
structure GotP where
  t : List Nat
  q : List Nat
  n : List Nat
  d : List Nat
  r : List Nat
  e : Nat
/-- a box is read -/
def getP (b : List Nat) : GotP :=
  let a := shP b 0
  let t := byP a.1 a.2.1 a.2.2
  let q := byP 4 t.2.1 t.2.2
  let n := byP 12 q.2.1 q.2.2
  let s := shP n.2.1 n.2.2
  let d := byP s.1 s.2.1 s.2.2
  ⟨t.1, q.1, n.1, d.1, d.2.1, d.2.2⟩
theorem shP_two (r : List Nat) : shP r 2 = (0, r, 2) := rfl
theorem byP_two (n : Nat) (r : List Nat) : byP n r 2 = ([], r, 2) := rfl
theorem shP_full (n : Nat) (rest : List Nat) (h : n < 18446744073709551616) : shP (sh n ++ rest) 0 = (n, rest, 0) := by
  unfold shP
  rw [if_pos rfl, gsF_sh n 0 0 rest (by omega) (fun _ => rfl)]
  simp
theorem byP_full (n : Nat) (x rest : List Nat) (h : x.length = n) : byP n (x ++ rest) 0 = (x, rest, 0) := by
  unfold byP
  rw [if_pos rfl, if_neg (by rw [List.length_append]; omega), ← h, List.take_left' rfl, List.drop_left' rfl]
theorem byP_short (n : Nat) (r : List Nat) (h : r.length < n) : byP n r 0 = ([], r, 2) := by
  unfold byP
  rw [if_pos rfl, if_pos h]
theorem gsF_cut (n : Nat) : ∀ i acc j, n * 128 ^ i < 18446744073709551616 → j < (sh n).length → gsF i acc ((sh n).take j) = (0, 0, 2) := by
  induction n using Nat.strongRecOn with
  | ind n ih =>
    intro i acc j h hj
    rw [sh] at hj ⊢
    split at hj
    · rename_i hlt
      rw [dif_pos hlt]
      have : j = 0 := by simpa using hj
      subst this
      rfl
    · rename_i hge
      rw [dif_neg hge]
      cases j with
      | zero => rfl
      | succ j =>
        rw [List.take_succ_cons, gsF]
        have hi : i ≤ 8 := by
          rcases Nat.lt_or_ge 8 i with h1 | h1
          · have h2 : 128 * 128 ^ 9 ≤ n * 128 ^ i := Nat.mul_le_mul (by omega) (Nat.pow_le_pow_right (by decide) h1)
            omega
          · exact h1
        rw [if_neg (by omega), if_pos (by omega)]
        refine ih (n / 128) (by omega) (i + 1) _ j ?_ (by simpa using hj)
        have e1 : n / 128 * 128 ^ (i + 1) + n % 128 * 128 ^ i = n * 128 ^ i := by
          rw [Nat.pow_succ, Nat.mul_comm (128 ^ i) 128, ← Nat.mul_assoc, ← Nat.add_mul]
          congr 1
          omega
        omega
theorem shP_cut (n j : Nat) (h : n < 18446744073709551616) (hj : j < (sh n).length) : shP ((sh n).take j) 0 = (0, (sh n).take j, 2) := by
  unfold shP
  rw [if_pos rfl, gsF_cut n 0 0 j (by omega) hj]
  rfl
theorem take_app (l m : List Nat) (p : Nat) : (l ++ m).take p = if p < l.length then l.take p else l ++ m.take (p - l.length) := by
  rw [List.take_append]
  by_cases h : p < l.length
  · rw [if_pos h, show p - l.length = 0 by omega, List.take_zero, List.append_nil]
  · rw [if_neg h, List.take_of_length_le (by omega)]
theorem putBx_nil (t : ByteArray) (ep : Nat) (nn body : List Nat) : putBx [] t ep nn body = sh t.size ++ (sby t ++ (form ep 4 ++ (nn ++ (sh body.length ++ body)))) := by
  unfold putBx; simp only [List.nil_append, List.append_assoc]
theorem getP_put (t : ByteArray) (ep : Nat) (nn body rest : List Nat) (hn : nn.length = 12) (ht : t.size ≤ 1000000) (hb : body.length ≤ 1000000) :
    getP (putBx [] t ep nn body ++ rest) = ⟨sby t, form ep 4, nn, body, rest, 0⟩ := by
  rw [putBx_nil]
  unfold getP
  simp only [List.append_assoc]
  rw [shP_full _ _ (by omega)]
  simp only
  rw [byP_full _ _ _ (sby_size t)]
  simp only
  rw [byP_full _ _ _ (form_len _ _)]
  simp only
  rw [byP_full _ _ _ hn]
  simp only
  rw [shP_full _ _ (by omega)]
  simp only
  rw [byP_full _ _ _ rfl]
theorem getP_cut (t : ByteArray) (ep : Nat) (nn body : List Nat) (hn : nn.length = 12) (ht : t.size ≤ 1000000) (hb : body.length ≤ 1000000) (p : Nat) (hp : p < (putBx [] t ep nn body).length) :
    (getP ((putBx [] t ep nn body).take p)).e = 2 := by
  rw [putBx_nil] at hp ⊢
  simp only [List.length_append, sby_size, form_len, hn] at hp
  have hf := form_len ep 4
  have hs := sby_size t
  unfold getP
  rw [take_app]
  by_cases h1 : p < (sh t.size).length
  · rw [if_pos h1, shP_cut _ _ (by omega) h1]
    rfl
  · rw [if_neg h1, shP_full _ _ (by omega), take_app]
    simp only
    generalize hp1 : p - (sh t.size).length = p1 at *
    by_cases h2 : p1 < (sby t).length
    · rw [if_pos h2, byP_short _ _ (by rw [List.length_take]; omega)]
      rfl
    · rw [if_neg h2, byP_full _ _ _ hs, take_app]
      simp only
      generalize hp2 : p1 - (sby t).length = p2 at *
      by_cases h3 : p2 < (form ep 4).length
      · rw [if_pos h3, byP_short _ _ (by rw [List.length_take]; omega)]
        rfl
      · rw [if_neg h3, byP_full _ _ _ hf, take_app]
        simp only
        generalize hp3 : p2 - (form ep 4).length = p3 at *
        by_cases h4 : p3 < nn.length
        · rw [if_pos h4, byP_short _ _ (by rw [List.length_take]; omega)]
          rfl
        · rw [if_neg h4, byP_full _ _ _ hn, take_app]
          simp only
          generalize hp4 : p3 - nn.length = p4 at *
          by_cases h5 : p4 < (sh body.length).length
          · rw [if_pos h5, shP_cut _ _ (by omega) h5]
            rfl
          · rw [if_neg h5, shP_full _ _ (by omega)]
            simp only
            rw [byP_short _ _ (by rw [List.length_take]; omega)]
theorem sby_inj {s t : ByteArray} (h : sby s = sby t) : s = t := by rw [← sby_back s, ← sby_back t, h]
/-- two boxes have one form just if they are one -/
theorem putBx_same (t1 t2 : ByteArray) (ep1 ep2 : Nat) (n1 n2 b1 b2 : List Nat) (h1 : n1.length = 12) (h2 : n2.length = 12) (k1 : t1.size ≤ 1000000) (k2 : t2.size ≤ 1000000) (m1 : b1.length ≤ 1000000) (m2 : b2.length ≤ 1000000) (e1 : ep1 < 4294967296) (e2 : ep2 < 4294967296) :
    (putBx [] t1 ep1 n1 b1 == putBx [] t2 ep2 n2 b2) = sameBx t1 ep1 n1 b1 t2 ep2 n2 b2 := by
  have key : putBx [] t1 ep1 n1 b1 = putBx [] t2 ep2 n2 b2 → t1 = t2 ∧ ep1 = ep2 ∧ n1 = n2 ∧ b1 = b2 := fun h => by
    have g1 := getP_put t1 ep1 n1 b1 [] h1 k1 m1
    have g2 := getP_put t2 ep2 n2 b2 [] h2 k2 m2
    rw [h, g2] at g1
    injection g1 with a1 a2 a3 a4
    refine ⟨(sby_inj a1).symm, ?_, a3.symm, a4.symm⟩
    have := congrArg number a2
    rw [number_form _ _ (by omega), number_form _ _ (by omega)] at this
    exact this.symm
  by_cases h : putBx [] t1 ep1 n1 b1 = putBx [] t2 ep2 n2 b2
  · obtain ⟨rfl, rfl, rfl, rfl⟩ := key h
    unfold sameBx
    simp
  · rw [beq_eq_false_iff_ne.2 h]
    symm
    cases hs : sameBx t1 ep1 n1 b1 t2 ep2 n2 b2 with
    | false => rfl
    | true =>
      exfalso
      unfold sameBx at hs
      simp only [Bool.and_eq_true, beq_iff_eq] at hs
      obtain ⟨ht, rfl, rfl, rfl⟩ := hs
      have : t1 = t2 := sby_inj (by unfold sby; rw [ht])
      subst this
      exact h rfl
end Go.Proofs.YtldjbbcfbjpfcaaDoor
/- Contracts: the reader of boxes. -/
namespace Go.Proofs.YtldjbbcfbjpfcaaDoor
open Go.RowKit
set_option linter.unusedVariables false
set_option linter.unusedSimpArgs false
/-- a reader at g: the bytes, what is left, the error -/
def RbAt (w : World) (g B : Nat) (b r : List Nat) (e : Nat) : Prop :=
  ∃ A c k, Blk w g 53 #[.slice A b.length c, .int .i64 (k : Nat), .int .i64 (e : Nat)] ∧ k ≤ b.length ∧ r = b.drop k ∧ Rd w B A (byt b) ∧ b.length ≤ c ∧ c ≤ maxLen
def eOk (e : Nat) : Prop := e = 0 ∨ e = 2 ∨ e = 4
theorem RbAt.keep {w w' : World} {g B : Nat} {b r : List Nat} {e : Nat} {S : Nat → Prop} (h : RbAt w g B b r e) (ho : Only S w w') (hg : ¬ S g) (hB : ∀ k, k < B → ¬ S k) : RbAt w' g B b r e := by
  obtain ⟨A, c, k, h1, h2, h3, h4, h5⟩ := h
  refine ⟨A, c, k, h1.keep ho hg, h2, h3, fun hne => ?_, h5⟩
  obtain ⟨ad, e, hb, hc⟩ := h4 hne
  exact ⟨ad, e, hb, fun j u hu => ho.cell (hc j u hu) (by rw [add_block]; exact hB _ hb)⟩
theorem gsF_e (b : List Nat) : ∀ i acc, eOk (gsF i acc b).2.2 := by
  induction b with
  | nil => intro i acc; exact .inr (.inl rfl)
  | cons c b ih =>
    intro i acc
    rw [gsF]
    split
    · exact .inr (.inr rfl)
    · split
      · exact ih _ _
      · split
        · exact .inr (.inr rfl)
        · exact .inl rfl
theorem shP_e {r : List Nat} {e : Nat} (h : eOk e) : eOk (shP r e).2.2 := by
  unfold shP
  split
  · exact gsF_e _ _ _
  · exact h
theorem byP_e {n : Nat} {r : List Nat} {e : Nat} (h : eOk e) : eOk (byP n r e).2.2 := by
  unfold byP
  split
  · split
    · exact .inr (.inl rfl)
    · exact .inl rfl
  · exact h
theorem gsF_used0 (b : List Nat) (i acc : Nat) : (gsF i acc b).2.1 ≤ i + b.length := gsF_used b i acc
/-- the reader's place and error are set -/
theorem rb_set {w : World} {g B : Nat} {A : Option Addr} {c k : Nat} {b : List Nat} {e : Nat} (k' e' : Nat) (hb : Blk w g 53 #[.slice A b.length c, .int .i64 (k : Nat), .int .i64 (e : Nat)]) (hrd : Rd w B A (byt b)) (hB : B ≤ g) (hc : b.length ≤ c) (hm : c ≤ maxLen) (hk : k' ≤ b.length) :
    RbAt ((w.setCell ⟨g, 1, none⟩ (.int .i64 (k' : Nat))).setCell ⟨g, 2, none⟩ (.int .i64 (e' : Nat))) g B b (b.drop k') e' ∧ Only (fun k => k = g) w ((w.setCell ⟨g, 1, none⟩ (.int .i64 (k' : Nat))).setCell ⟨g, 2, none⟩ (.int .i64 (e' : Nat))) := by
  have hO : Only (fun k => k = g) w ((w.setCell ⟨g, 1, none⟩ (.int .i64 (k' : Nat))).setCell ⟨g, 2, none⟩ (.int .i64 (e' : Nat))) := ((Only.refl (fun k => k = g) w).setCell (p := ⟨g, 1, none⟩) (fun _ => show g = g from rfl) _).setCell (p := ⟨g, 2, none⟩) (fun _ => show g = g from rfl) _
  refine ⟨⟨A, c, k', (hb.set_ 1 (.int .i64 (k' : Nat))).set_ 2 (.int .i64 (e' : Nat)), hk, rfl, fun hne => ?_, hc, hm⟩, hO⟩
  obtain ⟨ad, rfl, hab, hcell⟩ := hrd hne
  exact ⟨ad, rfl, hab, fun j v hv => hO.cell (hcell j v hv) (by rw [add_block]; show ¬ ad.block = g; omega)⟩
theorem rb_set1 {w : World} {g B : Nat} {A : Option Addr} {c k : Nat} {b : List Nat} {e : Nat} (k' : Nat) (hb : Blk w g 53 #[.slice A b.length c, .int .i64 (k : Nat), .int .i64 (e : Nat)]) (hrd : Rd w B A (byt b)) (hB : B ≤ g) (hc : b.length ≤ c) (hm : c ≤ maxLen) (hk : k' ≤ b.length) :
    RbAt (w.setCell ⟨g, 1, none⟩ (.int .i64 (k' : Nat))) g B b (b.drop k') e ∧ Only (fun k => k = g) w (w.setCell ⟨g, 1, none⟩ (.int .i64 (k' : Nat))) ∧ Rd (w.setCell ⟨g, 1, none⟩ (.int .i64 (k' : Nat))) B A (byt b) := by
  have hO : Only (fun k => k = g) w (w.setCell ⟨g, 1, none⟩ (.int .i64 (k' : Nat))) := (Only.refl (fun k => k = g) w).setCell (p := ⟨g, 1, none⟩) (fun _ => show g = g from rfl) _
  have hR : Rd (w.setCell ⟨g, 1, none⟩ (.int .i64 (k' : Nat))) B A (byt b) := fun hne => by
    obtain ⟨ad, rfl, hab, hcell⟩ := hrd hne
    exact ⟨ad, rfl, hab, fun j v hv => hO.cell (hcell j v hv) (by rw [add_block]; show ¬ ad.block = g; omega)⟩
  exact ⟨⟨A, c, k', hb.set_ 1 (.int .i64 (k' : Nat)), hk, rfl, hR, hc, hm⟩, hO, hR⟩
theorem rb_set2 {w : World} {g B : Nat} {A : Option Addr} {c k : Nat} {b : List Nat} {e : Nat} (e' : Nat) (hb : Blk w g 53 #[.slice A b.length c, .int .i64 (k : Nat), .int .i64 (e : Nat)]) (hrd : Rd w B A (byt b)) (hB : B ≤ g) (hc : b.length ≤ c) (hm : c ≤ maxLen) (hk : k ≤ b.length) :
    RbAt (w.setCell ⟨g, 2, none⟩ (.int .i64 (e' : Nat))) g B b (b.drop k) e' ∧ Only (fun k => k = g) w (w.setCell ⟨g, 2, none⟩ (.int .i64 (e' : Nat))) := by
  have hO : Only (fun k => k = g) w (w.setCell ⟨g, 2, none⟩ (.int .i64 (e' : Nat))) := (Only.refl (fun k => k = g) w).setCell (p := ⟨g, 2, none⟩) (fun _ => show g = g from rfl) _
  refine ⟨⟨A, c, k, hb.set_ 2 (.int .i64 (e' : Nat)), hk, rfl, fun hne => ?_, hc, hm⟩, hO⟩
  obtain ⟨ad, rfl, hab, hcell⟩ := hrd hne
  exact ⟨ad, rfl, hab, fun j v hv => hO.cell (hcell j v hv) (by rw [add_block]; show ¬ ad.block = g; omega)⟩
theorem Rd.dropB {w : World} {B : Nat} {A : Option Addr} {l : List Nat} (h : Rd w B A (byt l)) (k : Nat) {A' : Option Addr} (hA : k < l.length → A' = Option.map (fun x => x.add k) A) : Rd w B A' (byt (l.drop k)) := fun hn => by
  have hlt : k < l.length := by
    rcases Nat.lt_or_ge k l.length with h0 | h0
    · exact h0
    · rw [List.drop_eq_nil_of_le h0] at hn; exact absurd rfl hn
  obtain ⟨ad, rfl, hab, hcell⟩ := h (by intro h0; have h3 := congrArg List.length h0; rw [byt_len, List.length_nil] at h3; omega)
  refine ⟨ad.add k, hA hlt, by rw [add_block]; exact hab, fun j v hv => ?_⟩
  rw [Addr.add_add]
  refine hcell (k + j) v ?_
  unfold byt at hv ⊢
  rw [List.map_drop, List.getElem?_drop] at hv
  exact hv
set_option maxRecDepth 100000 in
set_option maxHeartbeats 2000000 in
theorem bshort_c (g B : Nat) (b r : List Nat) (e : Nat) (w : World) (hr : RbAt w g B b r e) (he : eOk e) (hB : B ≤ g) (hl : ∀ c ∈ b, c < 256) (h1 : b.length ≤ 10000000) :
    Calls Tryd.prog 19 #[.pointer (some ⟨g, 0, none⟩)] w fun x w' => x = .returned (.int .u64 ((shP r e).1 : Nat)) ∧ RbAt w' g B b (shP r e).2.1 (shP r e).2.2 ∧ Only (fun k => k = g) w w' := by
  have HRB := Lib.hid hr
  obtain ⟨A, c, k, hb, hk, rfl, hrd, hc, hm⟩ := hr
  have c0 : w.cell? ⟨g, 0, none⟩ = some (.slice A b.length c) := hb.cell 0
  have c1 : w.cell? ⟨g, 1, none⟩ = some (.int .i64 (k : Nat)) := hb.cell 1
  have c2 : w.cell? ⟨g, 2, none⟩ = some (.int .i64 (e : Nat)) := hb.cell 2
  rcases he with rfl | rfl | rfl
  · have HE1 : shP (b.drop k) 0 = ((gsF 0 0 (b.drop k)).1, (b.drop k).drop (gsF 0 0 (b.drop k)).2.1, (gsF 0 0 (b.drop k)).2.2) := rfl
    rw [HE1]
    clear HE1
    have hdl : (b.drop k).length = b.length - k := List.length_drop ..
    have hus : (gsF 0 0 (b.drop k)).2.1 ≤ b.length - k := by have := gsF_used (b.drop k) 0 0; omega
    have HG := Lib.hid (fun W A' c' (h : Rd W B A' (byt (b.drop k))) => getShort_c B A' c' (b.drop k) W h (fun x hx => hl x (List.mem_of_mem_drop hx)) (by omega))
    rw [hdl] at HG
    have HDD := Lib.hid (show (b.drop k).drop (gsF 0 0 (b.drop k)).2.1 = b.drop (k + (gsF 0 0 (b.drop k)).2.1) from List.drop_drop ..)
    rw [HDD.out]
    generalize gsF 0 0 (b.drop k) = R at *
    obtain ⟨n, u, f⟩ := R
    simp only at HG hus ⊢
    have f0 := hb.free 0
    have f1 := hb.free 1
    have f2 := hb.free 2
    have HB := Lib.hid hb
    have HRD := Lib.hid hrd
    have HS := Lib.hid (show B ≤ g ∧ b.length ≤ c ∧ c ≤ maxLen ∧ k + u ≤ b.length from ⟨hB, hc, hm, by omega⟩)
    have k1 : (k : Int) ≤ (b.length : Int) := by omega
    have k2 : k ≤ c := by omega
    have fw : IntKind.i64.wrap ((k : Int) + (u : Int)) = ((k + u : Nat) : Int) := by rw [IntWalk.i64_in _ (by omega)]; rfl
    have HDR := Lib.hid (fun A' h => Rd.dropB HRD.out k (A' := A') h)
    clear hb hrd hl h1 hB hm HDD HRB
    go_enter Tryd.func19, Tryd.ntmps19
    go_upto_region 3 with fail
    have d0 := cell_ext c0
    have d1 := cell_ext c1
    have d2 := cell_ext c2
    have HDY := Lib.hid (fun (y : Ext w) => show Rd y.wd B (if c = k then A else Option.map (fun x => x.add k) A) (byt (b.drop k)) from HDR.out _ (fun h => if_neg (by omega)) |>.below (y.bel.mono (by have := HB.out.lt; have := HS.out.1; omega)))
    refine wp_region_loud w [] (fun _ _ _ => True) (by kernel_rfl) (by kernel_rfl) (by kernel_rfl) (by kernel_rfl) (fun _ _ _ _ _ _ => trivial) (Below.refl _ _).drew ?_
    repeat (first
      | (refine wpLoud_valDP 13 rfl rfl (by kernel_rfl) (fun _ _ h => by cases h) (.pointer (some ⟨g, 0, none⟩)) (fun x => by kernel_rfl) _ (by simp only [Act.put, List.setIfInBounds_toArray, List.set_cons_succ, List.set_cons_zero]; rfl) ?_)
      | (refine wpLoud_valDP 17 rfl rfl (by kernel_rfl) (fun _ _ h => by cases h) (.pointer (some ⟨g, 0, none⟩)) (fun x => by kernel_rfl) _ (by simp only [Act.put, List.setIfInBounds_toArray, List.set_cons_succ, List.set_cons_zero]; rfl) ?_)
      | (refine wpLoud_call 21 rfl [] (.tuple #[.int .u64 (n : Nat), .int .i64 (u : Nat), .int .i64 (f : Nat)]) 27 (fun g => #[.slice (if c = k then A else Option.map (fun x => x.add k) A) (b.length - k) (c - k)]) rfl (fun _ _ h => by cases h) rfl (fun g w => by kernel_rfl) (fun g y hg => by
          refine (HG.out y.wd _ (c - k) (HDY.out y)).mono ?_
          rintro e w' ⟨rfl, rfl⟩
          exact ⟨_, rfl, Below.refl _ _, rfl⟩) _ (by simp only [Act.put, List.setIfInBounds_toArray, List.set_cons_succ, List.set_cons_zero]; rfl) ?_)
      | (refine wpLoud_plain rfl rfl rfl ?_; intro K hK; go_big_quiet_op; go_big_quiet_on))
    refine wpLoud_end [] (by rfl) ?_
    intro gg z hg
    have HB2 := Lib.hid (HB.out.below z.bel HB.out.lt)
    have HR2 := Lib.hid (show Rd z.wd B A (byt b) from HRD.out.below (z.bel.mono (by have := HB.out.lt; have := HS.out.1; omega)))
    have HO2 := Lib.hid (show Only (fun k => k = g) w z.wd from Only.of_below z.bel)
    generalize z.wd = Y at *
    simp only [fill, Act.put, List.setIfInBounds_toArray, List.set_cons_succ, List.set_cons_zero]
    clear c0 c1 c2 d0 d1 d2 f0 f1 f2 HDY HG
    have c0 : Y.cell? ⟨g, 0, none⟩ = some (.slice A b.length c) := HB2.out.cell 0
    have c1 : Y.cell? ⟨g, 1, none⟩ = some (.int .i64 (k : Nat)) := HB2.out.cell 1
    have c2 : Y.cell? ⟨g, 2, none⟩ = some (.int .i64 ((0 : Nat) : Int)) := HB2.out.cell 2
    have f0 := HB2.out.free 0
    have f1 := HB2.out.free 1
    have f2 := HB2.out.free 2
    have h := rb_set (k + u) f HB2.out HR2.out HS.out.1 HS.out.2.1 HS.out.2.2.1 HS.out.2.2.2
    rw [show ((k + u : Nat) : Int) = (k : Int) + (u : Int) by omega] at h
    have HH := Lib.hid h
    clear h
    go_wp2_with fail
    all_goals go_ret
    all_goals exact ⟨rfl, HH.out.1, HO2.out.trans HH.out.2⟩
  · have HE1 : shP (b.drop k) 2 = (0, b.drop k, 2) := rfl
    rw [HE1]
    clear HE1 hb hrd hl
    go_enter Tryd.func19, Tryd.ntmps19
    go_wp2_with fail
    go_ret
    exact ⟨rfl, HRB.out, Only.refl _ _⟩
  · have HE1 : shP (b.drop k) 4 = (0, b.drop k, 4) := rfl
    rw [HE1]
    clear HE1 hb hrd hl
    go_enter Tryd.func19, Tryd.ntmps19
    go_wp2_with fail
    go_ret
    exact ⟨rfl, HRB.out, Only.refl _ _⟩
set_option maxRecDepth 100000 in
set_option maxHeartbeats 8000000 in
theorem bbytes_c (g B n : Nat) (b r : List Nat) (e : Nat) (w : World) (hr : RbAt w g B b r e) (he : eOk e) (hB : B ≤ g) (h1 : b.length ≤ 10000000) (hn : n < 18446744073709551616) :
    Calls Tryd.prog 18 #[.pointer (some ⟨g, 0, none⟩), .int .u64 (n : Nat)] w fun x w' => ∃ v, x = .returned v ∧ OwnB w' w.heap.size v (byP n r e).1 ∧ RbAt w' g B b (byP n r e).2.1 (byP n r e).2.2 ∧ Only (fun k => k = g) w w' := by
  obtain ⟨A, c, k, hb, hk, rfl, hrd, hc, hm⟩ := hr
  have c0 : w.cell? ⟨g, 0, none⟩ = some (.slice A b.length c) := hb.cell 0
  have c1 : w.cell? ⟨g, 1, none⟩ = some (.int .i64 (k : Nat)) := hb.cell 1
  have c2 : w.cell? ⟨g, 2, none⟩ = some (.int .i64 (e : Nat)) := hb.cell 2
  have HB := Lib.hid hb
  have HRD := Lib.hid hrd
  have HS := Lib.hid (show B ≤ g ∧ b.length ≤ c ∧ c ≤ maxLen ∧ k ≤ b.length from ⟨hB, hc, hm, hk⟩)
  rcases he with rfl | rfl | rfl
  · obtain ⟨m, hmm⟩ : ∃ m, m = b.length - k := ⟨_, rfl⟩
    have hdl : (b.drop k).length = m := by rw [hmm]; exact List.length_drop ..
    have e1 : (b.length : Int) - (k : Int) = (m : Int) := by omega
    have e2 : IntKind.i64.wrap (m : Int) = (m : Int) := IntWalk.i64_in _ (by omega)
    have e3 : IntKind.u64.wrap (m : Int) = (m : Int) := by rw [IntKind.wrap_u64]; omega
    by_cases hlt : m < n
    · have HE1 : byP n (b.drop k) 0 = ([], b.drop k, 2) := byP_short _ _ (by omega)
      rw [HE1]
      have q1 : decide ((m : Int) < (n : Int)) = true := decide_eq_true (by omega)
      have q2 : decide (m < n) = true := decide_eq_true hlt
      have q3 : m < n := hlt
      clear HE1 hb hrd hB hm hlt hmm hdl hk hc
      go_enter Tryd.func18, Tryd.ntmps18
      go_upto_region 1 with fail
      go_quiet (fail)
      have HBY := Lib.hid (HB.out.below (belowDrewN nq (Below.refl w.heap.size w)) HB.out.lt)
      have HRY := Lib.hid (show Rd (w.drewN nq) B A (byt b) from HRD.out.below (belowDrewN nq (Below.refl B w)))
      have HOY := Lib.hid (show Only (fun k => k = g) w (w.drewN nq) from Only.drewN (Only.refl _ w) nq)
      generalize w.drewN nq = Y at *
      clear c0 c1 c2
      have c0 : Y.cell? ⟨g, 0, none⟩ = some (.slice A b.length c) := HBY.out.cell 0
      have c1 : Y.cell? ⟨g, 1, none⟩ = some (.int .i64 (k : Nat)) := HBY.out.cell 1
      have c2 : Y.cell? ⟨g, 2, none⟩ = some (.int .i64 ((0 : Nat) : Int)) := HBY.out.cell 2
      have f0 := HBY.out.free 0
      have f1 := HBY.out.free 1
      have f2 := HBY.out.free 2
      have HH := Lib.hid (rb_set2 (e := 0) 2 HBY.out HRY.out HS.out.1 HS.out.2.1 HS.out.2.2.1 HS.out.2.2.2)
      go_wp2_with fail
      go_ret
      exact ⟨_, rfl, OwnB.nil_ _ _, HH.out.1, HOY.out.trans HH.out.2⟩
    · have HE1 : byP n (b.drop k) 0 = ((b.drop k).take n, (b.drop k).drop n, 0) := by unfold byP; rw [if_pos rfl, if_neg (by omega)]
      rw [HE1]
      have q1 : decide ((m : Int) < (n : Int)) = false := decide_eq_false (by omega)
      have q2 : decide (m < n) = false := decide_eq_false hlt
      have q3 : ¬ m < n := hlt
      obtain ⟨kn, hkn⟩ : ∃ kn, kn = k + n := ⟨_, rfl⟩
      have HDD := Lib.hid (show (b.drop k).drop n = b.drop kn by rw [List.drop_drop, hkn])
      rw [HDD.out]
      have hLl : ((b.drop k).take n).length = n := by rw [List.length_take]; omega
      have e5 : (k : Int) + (n : Int) = (kn : Int) := by omega
      have e6 : IntKind.i64.wrap (kn : Int) = (kn : Int) := IntWalk.i64_in _ (by omega)
      have e7 : IntKind.i64.wrap (n : Int) = (n : Int) := IntWalk.i64_in _ (by omega)
      have k1 : (k : Int) ≤ (kn : Int) := by omega
      have k2 : kn ≤ c := by omega
      have k3 : k ≤ kn := by omega
      have k4 : kn - k = n := by omega
      have HKN := Lib.hid (show kn ≤ b.length by omega)
      have HCL := Lib.hid (fun W A' ca (h : Rd W B A' (byt ((b.drop k).take n))) => clone_c B A' ca ((b.drop k).take n) W h (by omega))
      rw [hLl] at HCL
      have HDR := Lib.hid (fun W (h : Rd W B A (byt b)) => show Rd W B (if c = k then A else Option.map (fun x => x.add k) A) (byt ((b.drop k).take n)) from Rd.takeB (Rd.dropB h k (fun hh => if_neg (by omega))) n)
      generalize (b.drop k).take n = L at *
      clear HE1 hb hrd hB hm hlt hmm hdl hk hc hkn HDD
      go_enter Tryd.func18, Tryd.ntmps18
      go_upto_region 1 with fail
      go_quiet (fail)
      have HBY := Lib.hid (HB.out.below (belowDrewN nq (Below.refl w.heap.size w)) HB.out.lt)
      have HRY := Lib.hid (show Rd (w.drewN nq) B A (byt b) from HRD.out.below (belowDrewN nq (Below.refl B w)))
      have HOY := Lib.hid (show Only (fun k => k = g) w (w.drewN nq) from Only.drewN (Only.refl _ w) nq)
      generalize w.drewN nq = Y at *
      clear c0 c1 c2
      have c0 : Y.cell? ⟨g, 0, none⟩ = some (.slice A b.length c) := HBY.out.cell 0
      have c1 : Y.cell? ⟨g, 1, none⟩ = some (.int .i64 (k : Nat)) := HBY.out.cell 1
      have c2 : Y.cell? ⟨g, 2, none⟩ = some (.int .i64 ((0 : Nat) : Int)) := HBY.out.cell 2
      have f0 := HBY.out.free 0
      have f1 := HBY.out.free 1
      have f2 := HBY.out.free 2
      go_upto_region 5 with fail
      go_quiet (fail)
      have HBX := Lib.hid (HBY.out.below (belowDrewN nq (Below.refl Y.heap.size Y)) HBY.out.lt)
      have HRX := Lib.hid (show Rd (Y.drewN nq) B A (byt b) from HRY.out.below (belowDrewN nq (Below.refl B Y)))
      have HOX := Lib.hid (show Only (fun k => k = g) w (Y.drewN nq) from Only.drewN (HOY.out) nq)
      generalize Y.drewN nq = X at *
      clear c0 c1 c2
      have c0 : X.cell? ⟨g, 0, none⟩ = some (.slice A b.length c) := HBX.out.cell 0
      have c1 : X.cell? ⟨g, 1, none⟩ = some (.int .i64 (k : Nat)) := HBX.out.cell 1
      have c2 : X.cell? ⟨g, 2, none⟩ = some (.int .i64 ((0 : Nat) : Int)) := HBX.out.cell 2
      have f0 := HBX.out.free 0
      have f1 := HBX.out.free 1
      have f2 := HBX.out.free 2
      have HH := Lib.hid (rb_set1 (e := 0) kn HBX.out HRX.out HS.out.1 HS.out.2.1 HS.out.2.2.1 HKN.out)
      go_upto_region 7 with fail
      generalize X.setCell ⟨g, 1, none⟩ (.int .i64 (kn : Nat)) = V at *
      have HOV := Lib.hid (HOX.out.trans HH.out.2.1)
      go_wp2_with (go_at_call 15; (refine (HCL.out V _ _ (HDR.out V HH.out.2.2)).mono ?_); rintro e W9 ⟨v9, rfl, ho, hb⟩; have HO9 := Lib.hid ho; have HB9 := Lib.hid hb; clear ho hb)
      all_goals go_ret
      all_goals exact ⟨_, rfl, own_base_le HO9.out HOV.out.size, HH.out.1.keep (S := fun _ => False) (Only.of_below HB9.out) (fun h => h) (fun _ _ h => h), HOV.out.trans (Only.of_below HB9.out)⟩
  · have HE1 : byP n (b.drop k) 2 = ([], b.drop k, 2) := rfl
    rw [HE1]
    clear HE1 hb hrd hB hm hk hc
    go_enter Tryd.func18, Tryd.ntmps18
    go_upto_region 1 with fail
    go_quiet (fail)
    have HBY := Lib.hid (HB.out.below (belowDrewN nq (Below.refl w.heap.size w)) HB.out.lt)
    have HRY := Lib.hid (show Rd (w.drewN nq) B A (byt b) from HRD.out.below (belowDrewN nq (Below.refl B w)))
    have HOY := Lib.hid (show Only (fun k => k = g) w (w.drewN nq) from Only.drewN (Only.refl _ w) nq)
    generalize w.drewN nq = Y at *
    clear c0 c1 c2
    have c0 : Y.cell? ⟨g, 0, none⟩ = some (.slice A b.length c) := HBY.out.cell 0
    have c1 : Y.cell? ⟨g, 1, none⟩ = some (.int .i64 (k : Nat)) := HBY.out.cell 1
    have c2 : Y.cell? ⟨g, 2, none⟩ = some (.int .i64 ((2 : Nat) : Int)) := HBY.out.cell 2
    have f0 := HBY.out.free 0
    have f1 := HBY.out.free 1
    have f2 := HBY.out.free 2
    go_wp2_with fail
    go_ret
    exact ⟨_, rfl, OwnB.nil_ _ _, ⟨A, c, k, HBY.out, HS.out.2.2.2, rfl, HRY.out, HS.out.2.1, HS.out.2.2.1⟩, HOY.out⟩
  · have HE1 : byP n (b.drop k) 4 = ([], b.drop k, 4) := rfl
    rw [HE1]
    clear HE1 hb hrd hB hm hk hc
    go_enter Tryd.func18, Tryd.ntmps18
    go_upto_region 1 with fail
    go_quiet (fail)
    have HBY := Lib.hid (HB.out.below (belowDrewN nq (Below.refl w.heap.size w)) HB.out.lt)
    have HRY := Lib.hid (show Rd (w.drewN nq) B A (byt b) from HRD.out.below (belowDrewN nq (Below.refl B w)))
    have HOY := Lib.hid (show Only (fun k => k = g) w (w.drewN nq) from Only.drewN (Only.refl _ w) nq)
    generalize w.drewN nq = Y at *
    clear c0 c1 c2
    have c0 : Y.cell? ⟨g, 0, none⟩ = some (.slice A b.length c) := HBY.out.cell 0
    have c1 : Y.cell? ⟨g, 1, none⟩ = some (.int .i64 (k : Nat)) := HBY.out.cell 1
    have c2 : Y.cell? ⟨g, 2, none⟩ = some (.int .i64 ((4 : Nat) : Int)) := HBY.out.cell 2
    have f0 := HBY.out.free 0
    have f1 := HBY.out.free 1
    have f2 := HBY.out.free 2
    go_wp2_with fail
    go_ret
    exact ⟨_, rfl, OwnB.nil_ _ _, ⟨A, c, k, HBY.out, HS.out.2.2.2, rfl, HRY.out, HS.out.2.1, HS.out.2.2.1⟩, HOY.out⟩
end Go.Proofs.YtldjbbcfbjpfcaaDoor
/- The state of box.Get: its box, its reader. -/
namespace Go.Proofs.YtldjbbcfbjpfcaaDoor
open Go.RowKit
set_option linter.unusedVariables false
set_option linter.unusedSimpArgs false
/-- the result's box at w.heap.size, the reader behind it -/
structure Gst (w W : World) (b r : List Nat) (e : Nat) : Prop where
  bel : Below w.heap.size w W
  bx : ∃ cs : Array Value, Blk W w.heap.size 27 cs ∧ cs.size = 15
  rd : RbAt W (w.heap.size + 1) w.heap.size b r e
theorem Gst.big {w W : World} {b r : List Nat} {e : Nat} (h : Gst w W b r e) : w.heap.size + 1 < W.heap.size := by
  obtain ⟨A, c, k, hb, _⟩ := h.rd
  exact hb.lt
/-- a call of a method of the reader -/
theorem Gst.call {w W W' : World} {b r r' : List Nat} {e e' : Nat} (h : Gst w W b r e) (hr : RbAt W' (w.heap.size + 1) w.heap.size b r' e') (ho : Only (fun k => k = w.heap.size + 1) W W') : Gst w W' b r' e' := by
  obtain ⟨cs, hb, hs⟩ := h.bx
  exact ⟨h.bel.trans (ho.below (fun i hi => by omega) h.bel.size), ⟨cs, hb.keep ho (by omega), hs⟩, hr⟩
/-- the box is written -/
theorem Gst.only {w W W' : World} {b r : List Nat} {e : Nat} (h : Gst w W b r e) (ho : Only (fun k => k = w.heap.size) W W') (hx : ∃ cs : Array Value, Blk W' w.heap.size 27 cs ∧ cs.size = 15) : Gst w W' b r e :=
  ⟨h.bel.trans (ho.below (fun i hi => by omega) h.bel.size), hx, h.rd.keep ho (by omega) (fun k hk => by omega)⟩
theorem Gst.set {w W : World} {b r : List Nat} {e : Nat} (h : Gst w W b r e) (j : Nat) (v : Value) : Gst w (W.setCell ⟨w.heap.size, j, none⟩ v) b r e := by
  obtain ⟨cs, hb, hs⟩ := h.bx
  exact h.only ((Only.refl (fun k => k = w.heap.size) W).setCell (p := ⟨w.heap.size, j, none⟩) (fun _ => rfl) v) ⟨_, hb.set_ j v, by simpa using hs⟩
theorem Gst.drewN {w W : World} {b r : List Nat} {e : Nat} (h : Gst w W b r e) (n : Nat) : Gst w (W.drewN n) b r e :=
  h.only (Only.drewN (Only.refl _ W) n) (by
    obtain ⟨cs, hb, hs⟩ := h.bx
    exact ⟨cs, hb, hs⟩)
/-- memory that is new -/
theorem Gst.next {w W W' : World} {b r : List Nat} {e : Nat} (h : Gst w W b r e) (hb : Below W.heap.size W W') : Gst w W' b r e := by
  obtain ⟨cs, hx, hs⟩ := h.bx
  exact h.only (Only.of_below hb) ⟨cs, hx.below hb hx.lt, hs⟩
theorem Gst.begin (w : World) (A : Option Addr) (c : Nat) (b : List Nat) (hr : Rd w w.heap.size A (byt b)) (hc : b.length ≤ c) (hm : c ≤ maxLen) :
    Gst w ((w.alloc (Obj.cells zBx 27)).alloc (Obj.cells #[.slice A b.length c, .int .i64 ((0 : Nat) : Int), .int .i64 ((0 : Nat) : Int)] 53)) b b 0 := by
  have hb1 : Below w.heap.size w (w.alloc (Obj.cells zBx 27)) := (Below.refl _ _).alloc (Nat.le_refl _) _
  have hb2 : Below w.heap.size w ((w.alloc (Obj.cells zBx 27)).alloc (Obj.cells #[.slice A b.length c, .int .i64 ((0 : Nat) : Int), .int .i64 ((0 : Nat) : Int)] 53)) := hb1.alloc (by simp) _
  refine ⟨hb2, ⟨zBx, (Blk.new w _ _).alloc _, rfl⟩, ⟨A, c, 0, ?_, Nat.zero_le _, rfl, hr.below hb2, hc, hm⟩⟩
  have h := Blk.new (w.alloc (Obj.cells zBx 27)) 53 #[.slice A b.length c, .int .i64 ((0 : Nat) : Int), .int .i64 ((0 : Nat) : Int)]
  simpa using h
end Go.Proofs.YtldjbbcfbjpfcaaDoor
/- Contract: box.Get on bytes that are too short. -/
namespace Go.Proofs.YtldjbbcfbjpfcaaDoor
open Go.RowKit
set_option linter.unusedVariables false
set_option linter.unusedSimpArgs false
theorem results_cell_tmp2 {fn : Func} {p u v : Tmp} {ty : TypeId} (h : fn.results = #[.cell p ty, .tmp u, .tmp v]) (tmps : Array Value) (P : Program) (w : World) :
    (results fn tmps).run P w = ((asAddr (tmps.getD p undef)).run P w).andThen fun a w₁ => ((loadVar ty a).run P w₁).andThen fun x w₂ => .ok (.tuple #[x, tmps.getD u undef, tmps.getD v undef]) w₂ := by
  simp only [results, h]
  simp [Sem.run_bind, Result.andThen]
theorem results_row_tmp2 {P : Program} {fn : Func} {p u v : Tmp} {ty : TypeId} (h : fn.results = #[.cell p ty, .tmp u, .tmp v]) (tmps : Array Value) (w : World) (g : Nat) (t : TypeId) (cs : Array Value) (fr : Nat × Nat) (d : TypeDesc)
    (hp : tmps.getD p undef = .pointer (some ⟨g, 0, none⟩)) (hg : w.heap[g]? = some (.cells cs t fr))
    (hu : P.underlying ty = some d) (hd : (match d with | .struct _ | .array _ _ => true | _ => false) = true) (hi : (P.info? ty).map (·.size) = some cs.size) :
    (results fn tmps).run P w = .ok (.tuple #[.agg cs, tmps.getD u undef, tmps.getD v undef]) w := by
  rw [results_cell_tmp2 h, hp]
  simp [asAddr, run_loadVar_row w g t ty cs fr d hg hu hd hi, Result.andThen]
theorem Gst.err {w W : World} {b r : List Nat} {e : Nat} (h : Gst w W b r e) : W.cell? ⟨w.heap.size + 1, 2, none⟩ = some (.int .i64 (e : Nat)) := by
  obtain ⟨A, c, k, hb, _⟩ := h.rd
  exact hb.cell 2
theorem Gst.cellN {w W : World} {b r : List Nat} {e : Nat} (h : Gst w W b r e) (j : Nat) (hj : j < 15) : ∃ v, W.cell? ⟨w.heap.size, j, none⟩ = some v := by
  obtain ⟨cs, hb, hs⟩ := h.bx
  exact ⟨cs[j]'(by omega), (hb.cell j).trans (Array.getElem?_eq_getElem (by omega))⟩
theorem Gst.free {w W : World} {b r : List Nat} {e : Nat} (h : Gst w W b r e) (j : Nat) : W.frozen? ⟨w.heap.size, j, none⟩ = false := by
  obtain ⟨cs, hb, hs⟩ := h.bx
  exact hb.free j
theorem shP_lt {r : List Nat} (hr : ∀ c ∈ r, c < 256) (e : Nat) : (shP r e).1 < 18446744073709551616 := by
  unfold shP
  split
  · exact gsF_lt r hr 0 0 (by decide) (by decide)
  · show 0 < _; decide
theorem shP_sub {r : List Nat} (e : Nat) (hr : ∀ c ∈ r, c < 256) : ∀ c ∈ (shP r e).2.1, c < 256 := by
  unfold shP
  split
  · exact fun c hc => hr c (List.mem_of_mem_drop hc)
  · exact hr
theorem byP_sub {n : Nat} {r : List Nat} (e : Nat) (hr : ∀ c ∈ r, c < 256) : (∀ c ∈ (byP n r e).1, c < 256) ∧ ∀ c ∈ (byP n r e).2.1, c < 256 := by
  unfold byP
  split
  · split
    · exact ⟨(fun c hc => by cases hc), hr⟩
    · exact ⟨fun c hc => hr c (List.mem_of_mem_take hc), fun c hc => hr c (List.mem_of_mem_drop hc)⟩
  · exact ⟨(fun c hc => by cases hc), hr⟩
theorem byP_len (n : Nat) (r : List Nat) (e : Nat) : (byP n r e).1 = [] ∨ (byP n r e).1.length = n := by
  unfold byP
  split
  · split
    · exact .inl rfl
    · exact .inr (by rw [List.length_take]; omega)
  · exact .inl rfl
theorem byP_le (n : Nat) (r : List Nat) (e : Nat) : (byP n r e).1.length ≤ r.length := by
  unfold byP
  split
  · split
    · exact Nat.zero_le _
    · rw [List.length_take]; omega
  · exact Nat.zero_le _
theorem Gst.copy {w W : World} {b r : List Nat} {e : Nat} {A : Option Addr} {c : Nat} {y : List Nat} (h : Gst w W b r e) (hy : y = [] ∨ y.length = 12) (hr : Rd W W.heap.size A (byt y)) :
    ∃ W', (Builtin.copy_ #[25, 25] 3 #[.slice (some ⟨w.heap.size, 2, none⟩) 12 12, .slice A y.length c]).run Tryd.prog W = .ok (.int .i64 (y.length : Nat)) W' ∧ Gst w W' b r e := by
  rcases hy with rfl | hy
  · exact ⟨W, run_copy_none (P := Tryd.prog) W 25 25 3 5 _ A 12 12 0 c Tryd.underlying25 (by kernel_rfl) rfl, h⟩
  · obtain ⟨cs, hb, hs⟩ := h.bx
    obtain ⟨ad, rfl, _, hcell⟩ := hr (by intro h0; have := congrArg List.length h0; rw [byt_len, hy] at this; cases this)
    have h1 := run_copy_row (P := Tryd.prog) W 25 25 3 5 w.heap.size 2 12 12 ad y.length c cs 27 (byt y) Tryd.underlying25 (by kernel_rfl) hb (by rw [byt_len, hy]; rfl) hcell (by rw [byt_len, hy, hs]; decide) (byt_one _)
    rw [byt_len] at h1
    refine ⟨_, h1, h.only (Only.mono (only_setRow W w.heap.size _) (fun i _ hi => hi)) ⟨_, setRow_heap W w.heap.size cs _ 27 (0, 0) hb, ?_⟩⟩
    have hsl : cs.toList.length = 15 := hs
    simp only [List.size_toArray, List.length_append, List.length_take, List.length_drop, byt_len, hy, hsl]
    omega
set_option maxRecDepth 100000 in
set_option maxHeartbeats 4000000 in
theorem bget2_c (A : Option Addr) (c : Nat) (b : List Nat) (w : World) (hr : Rd w w.heap.size A (byt b)) (hl : ∀ c ∈ b, c < 256) (hc : b.length ≤ c) (hm : c ≤ maxLen) (h1 : b.length ≤ 1000000) (h2 : (getP b).e = 2) :
    Calls Tryd.prog 7 #[.slice A b.length c] w fun e w' => e = .returned (.tuple #[.agg zBx, .int .i64 0, .int .i64 2]) ∧ Below w.heap.size w w' := by
  have zf := zero_bx
  have zs1 : zBx.size = 15 := by rfl
  have zs2 : ¬ zBx = #[] := by intro h; have := congrArg Array.size h; rw [zs1] at this; cases this
  have HG0 := Lib.hid (Gst.begin w A c b hr hc hm)
  have E0 : eOk 0 := .inl rfl
  obtain ⟨x1, hx1⟩ : ∃ x, x = shP b 0 := ⟨_, rfl⟩
  obtain ⟨x2, hx2⟩ : ∃ x, x = byP x1.1 x1.2.1 x1.2.2 := ⟨_, rfl⟩
  obtain ⟨x3, hx3⟩ : ∃ x, x = byP 4 x2.2.1 x2.2.2 := ⟨_, rfl⟩
  obtain ⟨x4, hx4⟩ : ∃ x, x = byP 12 x3.2.1 x3.2.2 := ⟨_, rfl⟩
  obtain ⟨x5, hx5⟩ : ∃ x, x = shP x4.2.1 x4.2.2 := ⟨_, rfl⟩
  obtain ⟨x6, hx6⟩ : ∃ x, x = byP x5.1 x5.2.1 x5.2.2 := ⟨_, rfl⟩
  have h6 : x6.2.2 = 2 := by rw [hx6, hx5, hx4, hx3, hx2, hx1]; exact h2
  have s1 : ∀ c ∈ x1.2.1, c < 256 := by rw [hx1]; exact shP_sub 0 hl
  have s2 : (∀ c ∈ x2.1, c < 256) ∧ ∀ c ∈ x2.2.1, c < 256 := by rw [hx2]; exact byP_sub _ s1
  have s3 : (∀ c ∈ x3.1, c < 256) ∧ ∀ c ∈ x3.2.1, c < 256 := by rw [hx3]; exact byP_sub _ s2.2
  have s4 : (∀ c ∈ x4.1, c < 256) ∧ ∀ c ∈ x4.2.1, c < 256 := by rw [hx4]; exact byP_sub _ s3.2
  have t1 : eOk x1.2.2 := by rw [hx1]; exact shP_e E0
  have t2 : eOk x2.2.2 := by rw [hx2]; exact byP_e t1
  have t3 : eOk x3.2.2 := by rw [hx3]; exact byP_e t2
  have t4 : eOk x4.2.2 := by rw [hx4]; exact byP_e t3
  have t5 : eOk x5.2.2 := by rw [hx5]; exact shP_e t4
  have n1 : x1.1 < 18446744073709551616 := by rw [hx1]; exact shP_lt hl 0
  have n5 : x5.1 < 18446744073709551616 := by rw [hx5]; exact shP_lt s4.2 _
  have l3 : x3.1.length ≤ 4 := by rw [hx3]; rcases byP_len 4 x2.2.1 x2.2.2 with h | h <;> rw [h] <;> decide
  have l4 : x4.1 = [] ∨ x4.1.length = 12 := by rw [hx4]; exact byP_len _ _ _
  have HS1 := Lib.hid (fun W (h : Gst w W b b 0) => bshort_c (w.heap.size + 1) w.heap.size b b 0 W h.rd E0 (by omega) hl (by omega))
  have HY1 := Lib.hid (fun W (h : Gst w W b x1.2.1 x1.2.2) => bbytes_c (w.heap.size + 1) w.heap.size x1.1 b x1.2.1 x1.2.2 W h.rd t1 (by omega) (by omega) n1)
  have HY2 := Lib.hid (fun W (h : Gst w W b x2.2.1 x2.2.2) => bbytes_c (w.heap.size + 1) w.heap.size 4 b x2.2.1 x2.2.2 W h.rd t2 (by omega) (by omega) (by decide))
  have HY3 := Lib.hid (fun W (h : Gst w W b x3.2.1 x3.2.2) => bbytes_c (w.heap.size + 1) w.heap.size 12 b x3.2.1 x3.2.2 W h.rd t3 (by omega) (by omega) (by decide))
  have HS2 := Lib.hid (fun W (h : Gst w W b x4.2.1 x4.2.2) => bshort_c (w.heap.size + 1) w.heap.size b x4.2.1 x4.2.2 W h.rd t4 (by omega) hl (by omega))
  have HY4 := Lib.hid (fun W (h : Gst w W b x5.2.1 x5.2.2) => bbytes_c (w.heap.size + 1) w.heap.size x5.1 b x5.2.1 x5.2.2 W h.rd t5 (by omega) (by omega) n5)
  have HNG := Lib.hid (fun W A' c' (h : Rd W W.heap.size A' (byt x3.1)) => get_c W.heap.size A' c' x3.1 4 W h s3.1 (by omega) (by decide) (by decide))
  rw [← hx1] at HS1
  rw [← hx2] at HY1
  rw [← hx3] at HY2
  rw [← hx4] at HY3
  rw [← hx5] at HS2
  rw [← hx6] at HY4
  clear hx1 hx2 hx3 hx4 hx5 hx6 s1 s2 s3 s4 t1 t2 t3 t4 t5 n1 n5 hr hl E0 h2
  obtain ⟨m1, r1, e1⟩ := x1
  obtain ⟨y2, r2, e2⟩ := x2
  obtain ⟨y3, r3, e3⟩ := x3
  obtain ⟨y4, r4, e4⟩ := x4
  obtain ⟨m5, r5, e5⟩ := x5
  obtain ⟨y6, r6, e6⟩ := x6
  simp only at HS1 HY1 HY2 HY3 HS2 HY4 HNG h6 l3 l4
  subst h6
  generalize getNum y3 4 = ne at *
  generalize getErr y3.length 4 = ge at *
  have HL4 := Lib.hid l4
  clear l3 l4
  go_enter Tryd.func7, Tryd.ntmps7
  go_upto_region 2 with fail
  have HGZ := Lib.hid HG0.out
  rw [show ((0 : Nat) : Int) = 0 from rfl] at HGZ
  generalize (w.alloc (Obj.cells zBx 27)).alloc (Obj.cells #[.slice A b.length c, .int .i64 0, .int .i64 0] 53) = Z at *
  clear zs2 zs1 HG0
  go_upto_region 3 with (first
    | (go_at_call 19; (refine (HS1.out Z HGZ.out).mono ?_); rintro e W1 ⟨rfl, hr1, ho1⟩; have HG1 := Lib.hid (HGZ.out.call hr1 ho1); clear hr1 ho1)
    | (go_at_call 18; (refine (HY1.out W1 HG1.out).mono ?_); rintro e W2 ⟨v2, rfl, ho, hr2, ho2⟩; obtain ⟨A2, c2, rfl, _, _, rr2⟩ := ho.rd; have HR2 := Lib.hid rr2; have HG2 := Lib.hid (HG1.out.call hr2 ho2); obtain ⟨z0, a0⟩ := HG2.out.cellN 0 (by decide); have b0 := HG2.out.free 0; clear ho hr2 ho2 rr2)
    | (refine wpList_convS rfl 25 9 5 (.tmp 14) rfl Tryd.underlying25 Tryd.underlying5 Tryd.underlying9 W2.heap.size A2 y2.length c2 rfl y2 HR2.out rfl ?_))
  have HG3 := Lib.hid (HG2.out.set 0 (.string (strB y2)))
  generalize W2.setCell ⟨w.heap.size, 0, none⟩ (.string (strB y2)) = W3 at *
  clear HG1 HG2 HGZ HR2 a0 b0
  go_upto_region 4 with (first
    | (go_at_call 18; (refine (HY2.out W3 HG3.out).mono ?_); rintro e W4 ⟨v4, rfl, ho, hr2, ho2⟩; obtain ⟨A4, c4, rfl, _, _, rr4⟩ := ho.rd; have HR4 := Lib.hid rr4; have HG4 := Lib.hid (HG3.out.call hr2 ho2); obtain ⟨z1, a1⟩ := HG4.out.cellN 1 (by decide); have b1 := HG4.out.free 1; clear ho hr2 ho2 rr4)
    | (go_at_call 20; (refine (HNG.out W4 A4 c4 HR4.out).mono ?_); rintro e W5 ⟨rfl, rfl⟩))
  go_upto_region 5 with fail
  have HG5 := Lib.hid (HG4.out.set 1 (.int .u32 (ne % 4294967296 : Int)))
  generalize W4.setCell ⟨w.heap.size, 1, none⟩ (.int .u32 (ne % 4294967296 : Int)) = W5 at *
  clear HG3 HG4 HR4 a1 b1
  go_cut [30] from 26 to 31 (fun s wx => Gst w wx b r4 e4)
  case first =>
    go_region_with (go_at_call 18; (refine (HY3.out _ (by first | exact HG5.out | exact HG5.out.drewN 1)).mono ?_); rintro e W6 ⟨v6, rfl, ho, hr2, ho2⟩; obtain ⟨A6, c6, rfl, _, _, rr6⟩ := ho.rd; have HG6 := Lib.hid (Gst.call (by first | exact HG5.out | exact HG5.out.drewN 1) hr2 ho2); obtain ⟨W7, hcp, hg7⟩ := HG6.out.copy (c := c6) HL4.out rr6; have HG7 := Lib.hid hg7; clear ho hr2 ho2 rr6 hg7)
    all_goals (go_wp2_with fail)
    all_goals go_meet
    all_goals exact HG7.out
  case rest =>
    have HG6 := Lib.hid (show Gst w wc b r4 e4 from hcut)
    have HBD := Lib.hid built_bx0
    have HZS := Lib.hid (show (Tryd.prog.info? 27).map (·.size) = some zBx.size by kernel_rfl)
    have HZ1 := Lib.hid (show zBx.all (·.oneCell') = true from bx_all _ _ _ _ _ _)
    clear hcut HG5
    go_upto_region 7 with (first
      | (go_at_call 19; (refine (HS2.out wc HG6.out).mono ?_); rintro e W8 ⟨rfl, hr1, ho1⟩; have HG8 := Lib.hid (HG6.out.call hr1 ho1); clear hr1 ho1)
      | (go_at_call 18; (refine (HY4.out W8 HG8.out).mono ?_); rintro e W9 ⟨v9, rfl, ho, hr2, ho2⟩; obtain ⟨A9, c9, rfl, _, _, _⟩ := ho.rd; have HG9 := Lib.hid (HG8.out.call hr2 ho2); obtain ⟨z14, a14⟩ := HG9.out.cellN 14 (by decide); have b14 := HG9.out.free 14; clear ho hr2 ho2))
    have HGX := Lib.hid (HG9.out.set 14 (.slice A9 y6.length c9))
    generalize W9.setCell ⟨w.heap.size, 14, none⟩ (.slice A9 y6.length c9) = WX at *
    clear HG6 HG8 HG9 a14 b14
    have cE : WX.cell? ⟨w.heap.size + 1, 2, none⟩ = some (.int .i64 2) := HGX.out.err
    obtain ⟨cs, hbx, hsx⟩ := HGX.out.bx
    have HBX := Lib.hid hbx
    have HSX := Lib.hid (show cs.size = zBx.size from hsx)
    clear hbx hsx
    go_upto_region 10 with fail
    go_wp2_with (first
      | (refine wpList_valG (by kernel_rfl) (.agg zBx) (run_built _ 27 [] _ HBD.out _ rfl rfl) ?_)
      | (refine wpList_store_rowTo rfl 27 (.tmp 2) (.tmp 54) rfl rfl w.heap.size zBx rfl (by kernel_rfl) 27 cs (by exact HBX.out) HZS.out HSX.out HZ1.out ?_))
    refine bodyPost_ret (results_row_tmp2 rfl _ _ w.heap.size 27 zBx (0, 0) _ rfl (setRow_heap _ _ cs _ 27 (0, 0) HBX.out) Tryd.underlying27 rfl HZS.out) rfl ?_
    exact ⟨rfl, below_row HGX.out.bel (by omega) _⟩
end Go.Proofs.YtldjbbcfbjpfcaaDoor
/- Contract: a place is picked. -/
namespace Go.Proofs.YtldjbbcfbjpfcaaDoor
open Go.RowKit
set_option linter.unusedVariables false
set_option maxRecDepth 100000 in
theorem pick_c (x : Int) (n : Nat) (w : World) (h1 : 1 ≤ n) (h8 : n ≤ 1000000000) (hx0 : -9223372036854775808 ≤ x) (hx1 : x ≤ 9223372036854775807) :
    Calls Tryd.prog 8 #[.int .i64 x, .int .i64 n] w fun e w' => (∃ K : Nat, K < n ∧ e = .returned (.int .i64 K)) ∧ w = w' := by
  have t1 : decide ((n : Int) < 1) = false := decide_eq_false (by omega)
  have hn0 : ((n : Int) == 0) = false := beq_eq_false_iff_ne.2 (by omega)
  have hm1 : x.tmod (n : Int) < (n : Int) := Int.tmod_lt_of_pos x (by omega)
  have hm2 : -(n : Int) < x.tmod (n : Int) := by
    have h := Int.natAbs_tmod x (n : Int)
    have h2 : x.natAbs % n < n := Nat.mod_lt _ (by omega)
    have h3 : (n : Int).natAbs = n := rfl
    rw [h3] at h
    omega
  generalize hq : x.tmod (n : Int) = q at *
  have HQ := Lib.hid hq
  by_cases hneg : q < 0
  · have t2 : decide (q < 0) = true := decide_eq_true hneg
    go_enter Tryd.func8, Tryd.ntmps8
    go_wp2
    go_ret
    exact ⟨⟨(q + n).toNat, by omega, by rw [show (((q + n).toNat : Nat) : Int) = q + n by omega]; rfl⟩, rfl⟩
  · have t2 : decide (q < 0) = false := decide_eq_false hneg
    go_enter Tryd.func8, Tryd.ntmps8
    go_wp2
    go_ret
    exact ⟨⟨q.toNat, by omega, by rw [show ((q.toNat : Nat) : Int) = q by omega]; rfl⟩, rfl⟩
end Go.Proofs.YtldjbbcfbjpfcaaDoor
/- Contracts: the document's Name and Check, whatever long a name is. -/
namespace Go.Proofs.YtldjbbcfbjpfcaaDoor
open Go.RowKit
set_option linter.unusedVariables false
set_option linter.unusedSimpArgs false
set_option maxRecDepth 100000 in
set_option maxHeartbeats 2000000 in
theorem rnameL_c (s : ByteArray) (w : World) (hs : s.size ≤ 9223372036854775807) : Calls Tryd.prog 11 #[.string s] w fun e w' => e = .returned (.bool (nameB s)) ∧ w = w' := by
  go_enter Tryd.func11, Tryd.ntmps11
  go_wp2
  go_loop [3] (fun i => ∃ k : Nat, k ≤ s.size ∧ i = .int .i64 k ∧ ((sby s).take k).all ltrN = true) (fun i => s.size - (intOf i).toNat)
  case atStart => exact ⟨0, Nat.zero_le _, rfl, rfl⟩
  case round =>
    obtain ⟨k, hk, rfl, hd⟩ := hrel
    have HD := Lib.hid hd
    clear hd
    by_cases hlt : k < s.size
    · have HT := Lib.hid (sby_take s k hlt)
      have HNO := Lib.hid (name_no hlt)
      have p1 : (k : Int) < (s.size : Int) := by omega
      rcases (show s[k].toNat < 45 ∨ s[k].toNat = 45 ∨ (45 < s[k].toNat ∧ s[k].toNat < 48) ∨ (48 ≤ s[k].toNat ∧ s[k].toNat ≤ 57) ∨ (57 < s[k].toNat ∧ s[k].toNat < 97) ∨ (97 ≤ s[k].toNat ∧ s[k].toNat ≤ 122) ∨ 122 < s[k].toNat by omega) with hc | hc | hc | hc | hc | hc | hc
      · have b1 : decide ((97 : Int) ≤ (s[k].toNat : Int)) = false := decide_eq_false (by omega)
        have b2 : decide ((s[k].toNat : Int) ≤ 122) = true := decide_eq_true (by omega)
        have b3 : decide ((48 : Int) ≤ (s[k].toNat : Int)) = false := decide_eq_false (by omega)
        have b4 : decide ((s[k].toNat : Int) ≤ 57) = true := decide_eq_true (by omega)
        have b5 : (((s[k].toNat : Nat) : Int) == 45) = false := by rw [beq_eq_false_iff_ne]; omega
        have b6 : (((s[k].toNat : Nat) : Int) != 45) = true := by rw [bne_iff_ne]; omega
        have HL := Lib.hid (show ltrN s[k].toNat = false by unfold ltrN; simp; omega)
        clear hc
        go_wp2_with fail
        go_ret
        exact ⟨by rw [HNO.out HL.out]; rfl, rfl⟩
      · have b1 : decide ((97 : Int) ≤ (s[k].toNat : Int)) = false := decide_eq_false (by omega)
        have b2 : decide ((s[k].toNat : Int) ≤ 122) = true := decide_eq_true (by omega)
        have b3 : decide ((48 : Int) ≤ (s[k].toNat : Int)) = false := decide_eq_false (by omega)
        have b4 : decide ((s[k].toNat : Int) ≤ 57) = true := decide_eq_true (by omega)
        have b5 : (((s[k].toNat : Nat) : Int) == 45) = true := by rw [beq_iff_eq]; omega
        have b6 : (((s[k].toNat : Nat) : Int) != 45) = false := by rw [bne_eq_false_iff_eq]; omega
        have HL := Lib.hid (show ltrN s[k].toNat = true by unfold ltrN; simp; omega)
        clear hc
        go_wp2_with fail
        go_round
        case rel => exact ⟨k + 1, by omega, by go_num, by rw [HT.out, List.all_append, HD.out, List.all_cons, HL.out]; rfl⟩
        case measure => simp [intOf]; omega
      · have b1 : decide ((97 : Int) ≤ (s[k].toNat : Int)) = false := decide_eq_false (by omega)
        have b2 : decide ((s[k].toNat : Int) ≤ 122) = true := decide_eq_true (by omega)
        have b3 : decide ((48 : Int) ≤ (s[k].toNat : Int)) = false := decide_eq_false (by omega)
        have b4 : decide ((s[k].toNat : Int) ≤ 57) = true := decide_eq_true (by omega)
        have b5 : (((s[k].toNat : Nat) : Int) == 45) = false := by rw [beq_eq_false_iff_ne]; omega
        have b6 : (((s[k].toNat : Nat) : Int) != 45) = true := by rw [bne_iff_ne]; omega
        have HL := Lib.hid (show ltrN s[k].toNat = false by unfold ltrN; simp; omega)
        clear hc
        go_wp2_with fail
        go_ret
        exact ⟨by rw [HNO.out HL.out]; rfl, rfl⟩
      · have b1 : decide ((97 : Int) ≤ (s[k].toNat : Int)) = false := decide_eq_false (by omega)
        have b2 : decide ((s[k].toNat : Int) ≤ 122) = true := decide_eq_true (by omega)
        have b3 : decide ((48 : Int) ≤ (s[k].toNat : Int)) = true := decide_eq_true (by omega)
        have b4 : decide ((s[k].toNat : Int) ≤ 57) = true := decide_eq_true (by omega)
        have b5 : (((s[k].toNat : Nat) : Int) == 45) = false := by rw [beq_eq_false_iff_ne]; omega
        have b6 : (((s[k].toNat : Nat) : Int) != 45) = true := by rw [bne_iff_ne]; omega
        have HL := Lib.hid (show ltrN s[k].toNat = true by unfold ltrN; simp; omega)
        clear hc
        go_wp2_with fail
        go_round
        case rel => exact ⟨k + 1, by omega, by go_num, by rw [HT.out, List.all_append, HD.out, List.all_cons, HL.out]; rfl⟩
        case measure => simp [intOf]; omega
      · have b1 : decide ((97 : Int) ≤ (s[k].toNat : Int)) = false := decide_eq_false (by omega)
        have b2 : decide ((s[k].toNat : Int) ≤ 122) = true := decide_eq_true (by omega)
        have b3 : decide ((48 : Int) ≤ (s[k].toNat : Int)) = true := decide_eq_true (by omega)
        have b4 : decide ((s[k].toNat : Int) ≤ 57) = false := decide_eq_false (by omega)
        have b5 : (((s[k].toNat : Nat) : Int) == 45) = false := by rw [beq_eq_false_iff_ne]; omega
        have b6 : (((s[k].toNat : Nat) : Int) != 45) = true := by rw [bne_iff_ne]; omega
        have HL := Lib.hid (show ltrN s[k].toNat = false by unfold ltrN; simp; omega)
        clear hc
        go_wp2_with fail
        go_ret
        exact ⟨by rw [HNO.out HL.out]; rfl, rfl⟩
      · have b1 : decide ((97 : Int) ≤ (s[k].toNat : Int)) = true := decide_eq_true (by omega)
        have b2 : decide ((s[k].toNat : Int) ≤ 122) = true := decide_eq_true (by omega)
        have b3 : decide ((48 : Int) ≤ (s[k].toNat : Int)) = true := decide_eq_true (by omega)
        have b4 : decide ((s[k].toNat : Int) ≤ 57) = false := decide_eq_false (by omega)
        have b5 : (((s[k].toNat : Nat) : Int) == 45) = false := by rw [beq_eq_false_iff_ne]; omega
        have b6 : (((s[k].toNat : Nat) : Int) != 45) = true := by rw [bne_iff_ne]; omega
        have HL := Lib.hid (show ltrN s[k].toNat = true by unfold ltrN; simp; omega)
        clear hc
        go_wp2_with fail
        go_round
        case rel => exact ⟨k + 1, by omega, by go_num, by rw [HT.out, List.all_append, HD.out, List.all_cons, HL.out]; rfl⟩
        case measure => simp [intOf]; omega
      · have b1 : decide ((97 : Int) ≤ (s[k].toNat : Int)) = true := decide_eq_true (by omega)
        have b2 : decide ((s[k].toNat : Int) ≤ 122) = false := decide_eq_false (by omega)
        have b3 : decide ((48 : Int) ≤ (s[k].toNat : Int)) = true := decide_eq_true (by omega)
        have b4 : decide ((s[k].toNat : Int) ≤ 57) = false := decide_eq_false (by omega)
        have b5 : (((s[k].toNat : Nat) : Int) == 45) = false := by rw [beq_eq_false_iff_ne]; omega
        have b6 : (((s[k].toNat : Nat) : Int) != 45) = true := by rw [bne_iff_ne]; omega
        have HL := Lib.hid (show ltrN s[k].toNat = false by unfold ltrN; simp; omega)
        clear hc
        go_wp2_with fail
        go_ret
        exact ⟨by rw [HNO.out HL.out]; rfl, rfl⟩
    · have hks : k = s.size := by omega
      have HF := Lib.hid (show (sby s).all ltrN = true by have h := HD.out; rw [hks, List.take_of_length_le (by rw [sby_size]; exact Nat.le_refl _)] at h; exact h)
      have HV := Lib.hid (show nameB s = (decide (1 ≤ s.size) && decide (s.size ≤ 24)) by unfold nameB; rw [HF.out, Bool.true_and])
      have p0 : ¬ (k : Int) < (s.size : Int) := by omega
      clear hks
      rcases (show s.size = 0 ∨ (1 ≤ s.size ∧ s.size ≤ 24) ∨ 24 < s.size by omega) with hz | hz | hz
      · have q1 : decide ((0 : Int) < (s.size : Int)) = false := decide_eq_false (by omega)
        have q2 : decide ((1 : Int) ≤ (s.size : Int)) = false := decide_eq_false (by omega)
        have q3 : decide ((s.size : Int) ≤ 24) = true := decide_eq_true (by omega)
        have q4 : decide (0 < s.size) = false := decide_eq_false (by omega)
        have HQ := Lib.hid (show nameB s = false by rw [HV.out]; simp; omega)
        clear hz
        go_wp2_with fail
        go_ret
        exact ⟨by rw [HQ.out]; rfl, rfl⟩
      · have q1 : decide ((0 : Int) < (s.size : Int)) = true := decide_eq_true (by omega)
        have q2 : decide ((1 : Int) ≤ (s.size : Int)) = true := decide_eq_true (by omega)
        have q3 : decide ((s.size : Int) ≤ 24) = true := decide_eq_true (by omega)
        have q4 : decide (0 < s.size) = true := decide_eq_true (by omega)
        have HQ := Lib.hid (show nameB s = true by rw [HV.out]; simp; omega)
        clear hz
        go_wp2_with fail
        go_ret
        exact ⟨by rw [HQ.out]; rfl, rfl⟩
      · have q1 : decide ((0 : Int) < (s.size : Int)) = true := decide_eq_true (by omega)
        have q2 : decide ((1 : Int) ≤ (s.size : Int)) = true := decide_eq_true (by omega)
        have q3 : decide ((s.size : Int) ≤ 24) = false := decide_eq_false (by omega)
        have q4 : decide (0 < s.size) = true := decide_eq_true (by omega)
        have HQ := Lib.hid (show nameB s = false by rw [HV.out]; simp; omega)
        clear hz
        go_wp2_with fail
        go_ret
        exact ⟨by rw [HQ.out]; rfl, rfl⟩
set_option maxRecDepth 100000 in
set_option maxHeartbeats 2000000 in
theorem rcheckL_c (t : ByteArray) (ep : Nat) (nn : List Nat) (A : Option Addr) (n c : Nat) (w : World) (hn : nn.length = 12) (hs : t.size ≤ 9223372036854775807) (hb : n ≤ 1000000000) :
    Calls Tryd.prog 4 #[.agg (bxV t ep nn A n c)] w fun e w' => e = .returned (.bool (checkB t n)) ∧ Below w.heap.size w w' := by
  have HN := Lib.hid (fun W => rnameL_c t W (by omega))
  have HC := Lib.hid (show checkB t n = (nameB t && (decide (16 ≤ n) && decide (n ≤ 4112))) from rfl)
  obtain ⟨r, hr⟩ : ∃ r, r = checkB t n := ⟨_, rfl⟩
  rw [← hr] at HC ⊢
  clear hr
  obtain ⟨Z, hZ⟩ : ∃ Z, Z = w.alloc (Obj.cells (bxV t ep nn A n c) 27) := ⟨_, rfl⟩
  have h1 := show Blk Z w.heap.size 27 (bxV t ep nn A n c) by rw [hZ]; exact Blk.new w _ _
  have HB := Lib.hid (show Below w.heap.size w Z by rw [hZ]; exact (Below.refl _ _).alloc (Nat.le_refl _) _)
  have c0 : Z.cell? ⟨w.heap.size, 0, none⟩ = some (.string t) := (h1.cell 0).trans (bx_c0 ..)
  have c14 : Z.cell? ⟨w.heap.size, 14, none⟩ = some (.slice A n c) := (h1.cell 14).trans (bx_c14 _ _ _ _ _ hn)
  clear h1
  go_enter Tryd.func4, Tryd.ntmps4
  go_upto_region 1 with (refine Go.Great.wpList_boxTo rfl 27 (.tmp 0) rfl (some 1) rfl w.heap.size rfl (bxV t ep nn A n c) rfl ?_)
  rw [← hZ]
  cases hnm : nameB t with
  | false =>
    rw [hnm] at HN HC
    have HV := Lib.hid (show r = false by rw [HC.out]; rfl)
    clear hZ hnm
    go_wp2_with (go_at_call 11; (refine (HN.out Z).mono ?_); rintro e W1 ⟨rfl, rfl⟩)
    go_ret
    exact ⟨by rw [HV.out]; rfl, HB.out⟩
  | true =>
    rw [hnm] at HN HC
    clear hZ hnm
    rcases (show n < 16 ∨ (16 ≤ n ∧ n ≤ 4112) ∨ 4112 < n by omega) with hz | hz | hz
    · have HV := Lib.hid (show r = false by rw [HC.out]; simp; omega)
      have q1 : (n : Int) < 16 ∨ ¬ (n : Int) < 16 := by omega
      clear q1
      have q2 : decide ((n : Int) < 16) = true := decide_eq_true (by omega)
      have q3 : decide ((4112 : Int) < (n : Int)) = false := decide_eq_false (by omega)
      have q4 : decide ((16 : Int) ≤ (n : Int)) = false := decide_eq_false (by omega)
      have q5 : decide ((n : Int) ≤ 4112) = true := decide_eq_true (by omega)
      clear hz
      go_wp2_with (go_at_call 11; (refine (HN.out Z).mono ?_); rintro e W1 ⟨rfl, rfl⟩)
      go_ret
      exact ⟨by rw [HV.out]; rfl, HB.out⟩
    · have HV := Lib.hid (show r = true by rw [HC.out]; simp; omega)
      have q1 : (n : Int) < 16 ∨ ¬ (n : Int) < 16 := by omega
      clear q1
      have q2 : decide ((n : Int) < 16) = false := decide_eq_false (by omega)
      have q3 : decide ((4112 : Int) < (n : Int)) = false := decide_eq_false (by omega)
      have q4 : decide ((16 : Int) ≤ (n : Int)) = true := decide_eq_true (by omega)
      have q5 : decide ((n : Int) ≤ 4112) = true := decide_eq_true (by omega)
      clear hz
      go_wp2_with (go_at_call 11; (refine (HN.out Z).mono ?_); rintro e W1 ⟨rfl, rfl⟩)
      go_ret
      exact ⟨by rw [HV.out]; rfl, HB.out⟩
    · have HV := Lib.hid (show r = false by rw [HC.out]; simp; omega)
      have q1 : (n : Int) < 16 ∨ ¬ (n : Int) < 16 := by omega
      clear q1
      have q2 : decide ((n : Int) < 16) = false := decide_eq_false (by omega)
      have q3 : decide ((4112 : Int) < (n : Int)) = true := decide_eq_true (by omega)
      have q4 : decide ((16 : Int) ≤ (n : Int)) = true := decide_eq_true (by omega)
      have q5 : decide ((n : Int) ≤ 4112) = false := decide_eq_false (by omega)
      clear hz
      go_wp2_with (go_at_call 11; (refine (HN.out Z).mono ?_); rintro e W1 ⟨rfl, rfl⟩)
      go_ret
      exact ⟨by rw [HV.out]; rfl, HB.out⟩
end Go.Proofs.YtldjbbcfbjpfcaaDoor
/- BoxApart, walked. -/
namespace Go.Proofs.YtldjbbcfbjpfcaaDoor
open Go.RowKit
set_option linter.unusedVariables false
set_option linter.unusedSimpArgs false
theorem Twx.next {w W W' : World} {B1 B2 : Array Value} (s : Twx w W B1 B2) (hb : Below W.heap.size W W') : Twx w W' B1 B2 := ⟨s.bel.trans (hb.mono s.bel.size), s.a.below hb s.a.lt, s.b.below hb s.b.lt⟩
theorem putBx_lt {t : ByteArray} {ep : Nat} {nn body : List Nat} (hn : ∀ c ∈ nn, c < 256) (hb : ∀ c ∈ body, c < 256) : ∀ c ∈ putBx [] t ep nn body, c < 256 := fun c hc => by
  rw [putBx_nil] at hc
  simp only [List.mem_append] at hc
  rcases hc with h | h | h | h | h | h
  · exact sh_lt _ c h
  · exact sby_lt _ c h
  · exact form_lt _ _ c h
  · exact hn c h
  · exact sh_lt _ c h
  · exact hb c h
theorem checkB_sz {t : ByteArray} {n : Nat} (h : checkB t n = true) : t.size ≤ 24 ∧ n ≤ 4112 := by
  unfold checkB nameB at h
  simp only [Bool.and_eq_true, decide_eq_true_eq] at h
  exact ⟨h.1.2.2, h.2.2⟩
theorem wpList_loadA2 {P : Program} {ops : Array Oper} {rest : List Oper} {o : Oper} {a : Act} {w : World} {Q : Exit → Act → World → Prop} (ty : TypeId) (x : Operand) (ho : o.op = .load ty x) (hw : Region.wanted o (yielded ops a.tmps) = true) (n off : Nat) (hx : a.eval x = .pointer (some ⟨n, off, none⟩)) (cs : Array Value) (d : TypeDesc)
    (hc : w.rangeAt n off cs.toList) (hu : P.underlying ty = some d) (hd : d.isRow = true) (hi : (P.info? ty).map (·.size) = some cs.toList.length)
    (h : wpList P ops Q rest (a.put o.dst (.agg cs)) w) : wpList P ops Q (o :: rest) a w := by
  have h0 := wpList_loadG hw ty x ho n off hx cs.toList d hc hu hd hi (Q := Q) (rest := rest)
  rw [Array.toArray_toList] at h0
  exact h0 h
set_option maxRecDepth 100000 in
set_option maxHeartbeats 4000000 in
theorem apart_c (t1 t2 : ByteArray) (ep1 ep2 : Nat) (nn1 nn2 l1 l2 : List Nat) (A1 A2 : Option Addr) (c1 c2 : Nat) (x : Int) (w : World) (ht1 : t1.size ≤ 9223372036854775807) (ht2 : t2.size ≤ 9223372036854775807) (he1 : ep1 < 4294967296) (he2 : ep2 < 4294967296) (hn1 : nn1.length = 12) (hn2 : nn2.length = 12) (hs1 : ∀ c ∈ nn1, c < 256) (hs2 : ∀ c ∈ nn2, c < 256)
    (hr1 : Rd w w.heap.size A1 (byt l1)) (hr2 : Rd w w.heap.size A2 (byt l2)) (hl1 : ∀ c ∈ l1, c < 256) (hl2 : ∀ c ∈ l2, c < 256) (hm1 : l1.length ≤ 9223372036854775807) (hm2 : l2.length ≤ 9223372036854775807) (hx0 : -9223372036854775808 ≤ x) (hx1 : x ≤ 9223372036854775807) (hq : QuartersAt w) :
    Calls Tryd.prog 3 #[.agg (bxV t1 ep1 nn1 A1 l1.length c1), .agg (bxV t2 ep2 nn2 A2 l2.length c2), .int .i64 x] w fun e w' => e = .returned (.bool true) ∧ Below w.heap.size w w' := by
  have HX := Lib.hid (Twx.begin w (bxV t1 ep1 nn1 A1 l1.length c1) (bxV t2 ep2 nn2 A2 l2.length c2))
  have HN1 := Lib.hid hn1
  have HN2 := Lib.hid hn2
  have HBX := Lib.hid HX.out.bel
  have HAW := Lib.hid (fun W (hb : Below w.heap.size w W) => awake16_c W (hq.next hb))
  have HNS := Lib.hid (show (Tryd.prog.info? 27).map (·.size) = some (bxV t1 ep1 nn1 A1 l1.length c1).toList.length by rw [Array.length_toList]; exact bxSz _ _ _ _ _ hn1)
  have HNT := Lib.hid (show (Tryd.prog.info? 27).map (·.size) = some (bxV t2 ep2 nn2 A2 l2.length c2).toList.length by rw [Array.length_toList]; exact bxSz _ _ _ _ _ hn2)
  have HL1 := Lib.hid (bxLn t1 ep1 (nn := nn1) A1 l1.length c1 hn1)
  have HL2 := Lib.hid (bxLn t2 ep2 (nn := nn2) A2 l2.length c2 hn2)
  by_cases hb1 : 1000 < l1.length
  · have q1 : (1000 : Int) < (l1.length : Int) := by omega
    clear hr1 hr2 hl1 hl2 hs1 hs2 hq hb1
    go_enter Tryd.func3, Tryd.ntmps3
    go_upto_region 1 with (first
      | (refine Go.Great.wpList_boxTo rfl 27 (.tmp 0) rfl (some 3) rfl w.heap.size rfl (bxV t1 ep1 nn1 A1 l1.length c1) rfl ?_)
      | (refine Go.Great.wpList_boxTo rfl 27 (.tmp 1) rfl (some 4) rfl (w.heap.size + 1) (by simp) (bxV t2 ep2 nn2 A2 l2.length c2) rfl ?_))
    generalize (w.alloc (Obj.cells (bxV t1 ep1 nn1 A1 l1.length c1) 27)).alloc (Obj.cells (bxV t2 ep2 nn2 A2 l2.length c2) 27) = Z at *
    have c14 : Z.cell? ⟨w.heap.size, 14, none⟩ = some (.slice A1 l1.length c1) := (HX.out.a.cell 14).trans (bx_c14 _ _ _ _ _ HN1.out)
    have d14 : Z.cell? ⟨w.heap.size + 1, 14, none⟩ = some (.slice A2 l2.length c2) := (HX.out.b.cell 14).trans (bx_c14 _ _ _ _ _ HN2.out)
    
    go_wp2_with (go_at_call 5; (refine (HAW.out Z HBX.out).mono ?_); rintro e W9 ⟨rfl, hb⟩; have HB9 := Lib.hid (HBX.out.trans (hb.mono HBX.out.size)); clear hb)
    go_ret
    exact ⟨rfl, HB9.out⟩
  have q1 : ¬ (1000 : Int) < (l1.length : Int) := by omega
  by_cases hb2 : 1000 < l2.length
  · have q2 : (1000 : Int) < (l2.length : Int) := by omega
    clear hr1 hr2 hl1 hl2 hs1 hs2 hq hb1 hb2
    go_enter Tryd.func3, Tryd.ntmps3
    go_upto_region 1 with (first
      | (refine Go.Great.wpList_boxTo rfl 27 (.tmp 0) rfl (some 3) rfl w.heap.size rfl (bxV t1 ep1 nn1 A1 l1.length c1) rfl ?_)
      | (refine Go.Great.wpList_boxTo rfl 27 (.tmp 1) rfl (some 4) rfl (w.heap.size + 1) (by simp) (bxV t2 ep2 nn2 A2 l2.length c2) rfl ?_))
    generalize (w.alloc (Obj.cells (bxV t1 ep1 nn1 A1 l1.length c1) 27)).alloc (Obj.cells (bxV t2 ep2 nn2 A2 l2.length c2) 27) = Z at *
    have c14 : Z.cell? ⟨w.heap.size, 14, none⟩ = some (.slice A1 l1.length c1) := (HX.out.a.cell 14).trans (bx_c14 _ _ _ _ _ HN1.out)
    have d14 : Z.cell? ⟨w.heap.size + 1, 14, none⟩ = some (.slice A2 l2.length c2) := (HX.out.b.cell 14).trans (bx_c14 _ _ _ _ _ HN2.out)
    
    go_wp2_with (go_at_call 5; (refine (HAW.out Z HBX.out).mono ?_); rintro e W9 ⟨rfl, hb⟩; have HB9 := Lib.hid (HBX.out.trans (hb.mono HBX.out.size)); clear hb)
    go_ret
    exact ⟨rfl, HB9.out⟩
  have q2 : ¬ (1000 : Int) < (l2.length : Int) := by omega
  have HC1 := Lib.hid (fun W => rcheckL_c t1 ep1 nn1 A1 l1.length c1 W hn1 ht1 (by omega))
  have HC2 := Lib.hid (fun W => rcheckL_c t2 ep2 nn2 A2 l2.length c2 W hn2 ht2 (by omega))
  cases hk1 : checkB t1 l1.length with
  | false =>
    rw [hk1] at HC1
    clear hr1 hr2 hl1 hl2 hs1 hs2 hq hb1 hb2 HC2
    go_enter Tryd.func3, Tryd.ntmps3
    go_upto_region 1 with (first
      | (refine Go.Great.wpList_boxTo rfl 27 (.tmp 0) rfl (some 3) rfl w.heap.size rfl (bxV t1 ep1 nn1 A1 l1.length c1) rfl ?_)
      | (refine Go.Great.wpList_boxTo rfl 27 (.tmp 1) rfl (some 4) rfl (w.heap.size + 1) (by simp) (bxV t2 ep2 nn2 A2 l2.length c2) rfl ?_))
    generalize (w.alloc (Obj.cells (bxV t1 ep1 nn1 A1 l1.length c1) 27)).alloc (Obj.cells (bxV t2 ep2 nn2 A2 l2.length c2) 27) = Z at *
    have c14 : Z.cell? ⟨w.heap.size, 14, none⟩ = some (.slice A1 l1.length c1) := (HX.out.a.cell 14).trans (bx_c14 _ _ _ _ _ HN1.out)
    have d14 : Z.cell? ⟨w.heap.size + 1, 14, none⟩ = some (.slice A2 l2.length c2) := (HX.out.b.cell 14).trans (bx_c14 _ _ _ _ _ HN2.out)
    
    go_wp2_with (first
      | (refine wpList_loadA2 27 (.tmp 3) rfl rfl w.heap.size 0 rfl (bxV t1 ep1 nn1 A1 l1.length c1) _ (rangeAt_blk HX.out.a) Tryd.underlying27 rfl HNS.out ?_)
      | (go_at_call 4; (with_reducible refine (HC1.out Z).mono ?_); rintro e W1 ⟨rfl, hb⟩; have HX1 := Lib.hid (HX.out.next hb); have HB1 := Lib.hid HX1.out.bel; clear hb)
      | (go_at_call 5; (refine (HAW.out W1 HB1.out).mono ?_); rintro e W9 ⟨rfl, hb⟩; have HB9 := Lib.hid (HB1.out.trans (hb.mono HB1.out.size)); clear hb))
    go_ret
    exact ⟨rfl, HB9.out⟩
  | true =>
    rw [hk1] at HC1
    cases hk2 : checkB t2 l2.length with
    | false =>
      rw [hk2] at HC2
      clear hr1 hr2 hl1 hl2 hs1 hs2 hq hb1 hb2
      go_enter Tryd.func3, Tryd.ntmps3
      go_upto_region 1 with (first
        | (refine Go.Great.wpList_boxTo rfl 27 (.tmp 0) rfl (some 3) rfl w.heap.size rfl (bxV t1 ep1 nn1 A1 l1.length c1) rfl ?_)
        | (refine Go.Great.wpList_boxTo rfl 27 (.tmp 1) rfl (some 4) rfl (w.heap.size + 1) (by simp) (bxV t2 ep2 nn2 A2 l2.length c2) rfl ?_))
      generalize (w.alloc (Obj.cells (bxV t1 ep1 nn1 A1 l1.length c1) 27)).alloc (Obj.cells (bxV t2 ep2 nn2 A2 l2.length c2) 27) = Z at *
      have c14 : Z.cell? ⟨w.heap.size, 14, none⟩ = some (.slice A1 l1.length c1) := (HX.out.a.cell 14).trans (bx_c14 _ _ _ _ _ HN1.out)
      have d14 : Z.cell? ⟨w.heap.size + 1, 14, none⟩ = some (.slice A2 l2.length c2) := (HX.out.b.cell 14).trans (bx_c14 _ _ _ _ _ HN2.out)
      
      go_wp2_with (first
        | (refine wpList_loadA2 27 (.tmp 3) rfl rfl w.heap.size 0 rfl (bxV t1 ep1 nn1 A1 l1.length c1) _ (rangeAt_blk HX.out.a) Tryd.underlying27 rfl HNS.out ?_)
        | (go_at_call 4; (with_reducible refine (HC1.out Z).mono ?_); rintro e W1 ⟨rfl, hb⟩; have HX1 := Lib.hid (HX.out.next hb); have HB1 := Lib.hid HX1.out.bel; clear hb)
        | (refine wpList_loadA2 27 (.tmp 4) rfl rfl (w.heap.size + 1) 0 rfl (bxV t2 ep2 nn2 A2 l2.length c2) _ (rangeAt_blk HX1.out.b) Tryd.underlying27 rfl HNT.out ?_)
        | (go_at_call 4; (with_reducible refine (HC2.out W1).mono ?_); rintro e W2 ⟨rfl, hb⟩; have HX2 := Lib.hid (HX1.out.next hb); have HB2 := Lib.hid HX2.out.bel; clear hb)
        | (go_at_call 5; (refine (HAW.out W2 HB2.out).mono ?_); rintro e W9 ⟨rfl, hb⟩; have HB9 := Lib.hid (HB2.out.trans (hb.mono HB2.out.size)); clear hb))
      go_ret
      exact ⟨rfl, HB9.out⟩
    | true =>
      rw [hk2] at HC2
      obtain ⟨z1, y1⟩ := checkB_sz hk1
      obtain ⟨z2, y2⟩ := checkB_sz hk2
      have HP1 := Lib.hid (fun W (hb : Below w.heap.size w W) => putBx_c none 0 [] nn1 l1 t1 ep1 A1 c1 W hn1 he1 (Rd.nil_ _ _ _) (by decide) (Rd.ups (Rd.below hr1 hb) hb.size) hk1)
      have HP2 := Lib.hid (fun W (hb : Below w.heap.size w W) => putBx_c none 0 [] nn2 l2 t2 ep2 A2 c2 W hn2 he2 (Rd.nil_ _ _ _) (by decide) (Rd.ups (Rd.below hr2 hb) hb.size) hk2)
      have hlen1 := putBx_len [] t1 ep1 nn1 l1
      have hlen2 := putBx_len [] t2 ep2 nn2 l2
      have ha1 := sh64 t1.size (by omega)
      have ha2 := sh64 t2.size (by omega)
      have ha3 := sh64 l1.length (by omega)
      have ha4 := sh64 l2.length (by omega)
      have hp1 := sh_pos t1.size
      have hFl1 := putBx_lt (t := t1) (ep := ep1) hs1 hl1
      have hFl2 := putBx_lt (t := t2) (ep := ep2) hs2 hl2
      have hSB := putBx_same t1 t2 ep1 ep2 nn1 nn2 l1 l2 hn1 hn2 (by omega) (by omega) (by omega) (by omega) he1 he2
      have hcut := getP_cut t1 ep1 nn1 l1 hn1 (by omega) (by omega)
      have HSR := Lib.hid (fun W (hb : Below w.heap.size w W) => rsame16_c t1 t2 ep1 ep2 nn1 nn2 l1 l2 A1 A2 c1 c2 W hn1 hn2 hs1 hs2 (Rd.ups (Rd.below hr1 hb) hb.size) (Rd.ups (Rd.below hr2 hb) hb.size) hl1 hl2 (by omega) (by omega))
      rw [← hSB] at HSR
      generalize putBx [] t1 ep1 nn1 l1 = F1 at *
      generalize putBx [] t2 ep2 nn2 l2 = F2 at *
      have HF1 := Lib.hid (show 1 ≤ F1.length ∧ F1.length ≤ 5000 by simp only [List.length_nil] at hlen1; omega)
      have HF2 := Lib.hid (show F2.length ≤ 5000 by simp only [List.length_nil] at hlen2; omega)
      have HSF := Lib.hid (fun W B3 B4 D1 D2 e1 e2 (h : Rd W B3 D1 (byt F1)) (g : Rd W B4 D2 (byt F2)) => same_c B3 B4 D1 D2 e1 e2 F1 F2 W hFl1 hFl2 h g (by have := HF1.out; omega) (by have := HF2.out; omega))
      have HPK := Lib.hid (fun W => pick_c x F1.length W HF1.out.1 (by have := HF1.out; omega) hx0 hx1)
      have HGT := Lib.hid (fun W D e K (hK : K < F1.length) (h : Rd W W.heap.size D (byt F1)) (he : F1.length ≤ e) (hm : e ≤ maxLen) => show Calls Tryd.prog 7 #[.slice D K e] W fun e' w' => e' = .returned (.tuple #[.agg zBx, .int .i64 0, .int .i64 2]) ∧ Below W.heap.size W w' by
        have hKl : (F1.take K).length = K := by rw [List.length_take]; omega
        have h := bget2_c D e (F1.take K) W (Rd.takeB h K) (fun c hc => hFl1 c (List.mem_of_mem_take hc)) (by omega) hm (by have := HF1.out; omega) (hcut K hK)
        rw [hKl] at h
        exact h)
      have zf := zero_bx
      have zs1 : zBx.size = 15 := by rfl
      have zs2 : ¬ zBx = #[] := by intro h; have := congrArg Array.size h; rw [zs1] at this; cases this
      have HZS := Lib.hid (show (Tryd.prog.info? 27).map (·.size) = some zBx.size by kernel_rfl)
      have HZ1 := Lib.hid (show zBx.all (·.oneCell') = true from bx_all _ _ _ _ _ _)
      obtain ⟨s, hs⟩ : ∃ s, s = (F1 == F2) := ⟨_, rfl⟩
      rw [← hs] at HSF HSR
      clear hs hSB hcut hr1 hr2 hl1 hl2 hs1 hs2 hq hb1 hb2 hk1 hk2 hlen1 hlen2 ha1 ha2 ha3 ha4 hp1 hFl1 hFl2 z1 z2 y1 y2
      go_enter Tryd.func3, Tryd.ntmps3
      go_upto_region 1 with (first
        | (refine Go.Great.wpList_boxTo rfl 27 (.tmp 0) rfl (some 3) rfl w.heap.size rfl (bxV t1 ep1 nn1 A1 l1.length c1) rfl ?_)
        | (refine Go.Great.wpList_boxTo rfl 27 (.tmp 1) rfl (some 4) rfl (w.heap.size + 1) (by simp) (bxV t2 ep2 nn2 A2 l2.length c2) rfl ?_))
      generalize (w.alloc (Obj.cells (bxV t1 ep1 nn1 A1 l1.length c1) 27)).alloc (Obj.cells (bxV t2 ep2 nn2 A2 l2.length c2) 27) = Z at *
      have c14 : Z.cell? ⟨w.heap.size, 14, none⟩ = some (.slice A1 l1.length c1) := (HX.out.a.cell 14).trans (bx_c14 _ _ _ _ _ HN1.out)
      have d14 : Z.cell? ⟨w.heap.size + 1, 14, none⟩ = some (.slice A2 l2.length c2) := (HX.out.b.cell 14).trans (bx_c14 _ _ _ _ _ HN2.out)
      
      go_upto_region 3 with (first
        | (refine wpList_loadA2 27 (.tmp 3) rfl rfl w.heap.size 0 rfl (bxV t1 ep1 nn1 A1 l1.length c1) _ (rangeAt_blk HX.out.a) Tryd.underlying27 rfl HNS.out ?_)
        | (go_at_call 4; (with_reducible refine (HC1.out Z).mono ?_); rintro e W1 ⟨rfl, hb⟩; have HX1 := Lib.hid (HX.out.next hb); have HB1 := Lib.hid HX1.out.bel; clear hb)
        | (refine wpList_loadA2 27 (.tmp 4) rfl rfl (w.heap.size + 1) 0 rfl (bxV t2 ep2 nn2 A2 l2.length c2) _ (rangeAt_blk HX1.out.b) Tryd.underlying27 rfl HNT.out ?_)
        | (go_at_call 4; (with_reducible refine (HC2.out W1).mono ?_); rintro e W2 ⟨rfl, hb⟩; have HX2 := Lib.hid (HX1.out.next hb); have HB2 := Lib.hid HX2.out.bel; clear hb))
      clear c14 d14 HC1 HC2 HX HX1 HB1
      refine wp_region_loud W2 [34, 36, 7, 8] (fun k u W => if k = 34 ∨ k = 7 then OwnB W W2.heap.size u F1 else OwnB W W2.heap.size u F2) (by kernel_rfl) (by kernel_rfl) (by kernel_rfl) (by kernel_rfl) (fun k u w1 w2 h hb => by
        by_cases h33 : k = 34 ∨ k = 7
        · rw [if_pos h33] at h ⊢; exact OwnB.next h hb
        · rw [if_neg h33] at h ⊢; exact OwnB.next h hb) (Below.refl _ _).drew ?_
      repeat (first
        | (refine wpLoud_loadB rfl rfl 27 (.tmp 3) rfl w.heap.size 0 rfl (bxV t1 ep1 nn1 A1 l1.length c1) _ (fun z => rangeAt_blk (HX2.out.a.below z.bel HX2.out.a.lt)) Tryd.underlying27 rfl HNS.out _ (by simp only [Act.put, List.setIfInBounds_toArray, List.set_cons_succ, List.set_cons_zero]; rfl) ?_)
        | (refine wpLoud_loadB rfl rfl 27 (.tmp 4) rfl (w.heap.size + 1) 0 rfl (bxV t2 ep2 nn2 A2 l2.length c2) _ (fun z => rangeAt_blk (HX2.out.b.below z.bel HX2.out.b.lt)) Tryd.underlying27 rfl HNT.out _ (by simp only [Act.put, List.setIfInBounds_toArray, List.set_cons_succ, List.set_cons_zero]; rfl) ?_)
        | (refine wpLoud_call 34 rfl [] tok 6 (fun g => #[.slice none 0 0, .agg (bxV t1 ep1 nn1 A1 l1.length c1)]) rfl (fun _ _ h => by cases h) rfl (fun g w => by kernel_rfl) (fun g y hg => by
            refine (HP1.out y.wd (HB2.out.trans (y.bel.mono HB2.out.size))).mono ?_
            rintro e w' ⟨u, rfl, ho, hb⟩
            exact ⟨u, rfl, hb, own_base_le ho y.bel.size⟩) _ (by simp only [Act.put, List.setIfInBounds_toArray, List.set_cons_succ, List.set_cons_zero]; rfl) ?_)
        | (refine wpLoud_call 36 rfl [] tok 6 (fun g => #[.slice none 0 0, .agg (bxV t2 ep2 nn2 A2 l2.length c2)]) rfl (fun _ _ h => by cases h) rfl (fun g w => by kernel_rfl) (fun g y hg => by
            refine (HP2.out y.wd (HB2.out.trans (y.bel.mono HB2.out.size))).mono ?_
            rintro e w' ⟨u, rfl, ho, hb⟩
            exact ⟨u, rfl, hb, own_base_le ho y.bel.size⟩) _ (by simp only [Act.put, List.setIfInBounds_toArray, List.set_cons_succ, List.set_cons_zero]; rfl) ?_)
        | (refine wpLoud_move rfl 34 7 (.inl rfl) rfl rfl rfl rfl (fun u w h => h) _ (by simp only [Act.put, List.setIfInBounds_toArray, List.set_cons_succ, List.set_cons_zero]; rfl) ?_)
        | (refine wpLoud_move rfl 36 8 (.inl rfl) rfl rfl rfl rfl (fun u w h => h) _ (by simp only [Act.put, List.setIfInBounds_toArray, List.set_cons_succ, List.set_cons_zero]; rfl) ?_)
        | (refine wpLoud_plain rfl rfl rfl ?_; intro K hK; go_big_quiet_op; go_big_quiet_on))
      refine wpLoud_end [34, 36, 7, 8] (by rfl) ?_
      intro gg z hg
      have h7 : OwnB z.wd W2.heap.size (gg 7) F1 := hg 7 (by simp)
      have h8 : OwnB z.wd W2.heap.size (gg 8) F2 := hg 8 (by simp)
      obtain ⟨D1, e1, g7, hc7, hm7, r7⟩ := h7.rd
      obtain ⟨D2, e2, g8, _, _, r8⟩ := h8.rd
      have HR7 := Lib.hid r7
      have HR8 := Lib.hid r8
      have HC7 := Lib.hid (show F1.length ≤ e1 ∧ e1 ≤ maxLen from ⟨hc7, hm7⟩)
      have HX3 := Lib.hid (HX2.out.next z.bel)
      generalize z.wd = W3 at *
      simp only [fill, Act.put, List.setIfInBounds_toArray, List.set_cons_succ, List.set_cons_zero]
      rw [g7, g8]
      clear hg h7 h8 g7 g8 r7 r8 hc7 hm7 HX2 HB2 HP1 HP2
      generalize gg 34 = x34 at *
      generalize gg 36 = x36 at *
      have hne7 : byt F1 ≠ [] := fun h0 => by have h := byt_len F1; rw [h0] at h; have h1 := HF1.out.1; simp at h; omega
      obtain ⟨ad, rfl, had, hcd⟩ := HR7.out hne7
      clear hne7 had hcd
      have hc7 : F1.length ≤ e1 := HC7.out.1
      have hm7 : e1 ≤ 9223372036854775807 := HC7.out.2
      go_upto_region 5 with (first
        | (go_at_call 8; (refine (HPK.out W3).mono ?_); rintro e W4 ⟨⟨K, hK, rfl⟩, rfl⟩; have HK := Lib.hid hK; have hk1 : K ≤ e1 := by omega)
        | (go_at_call 7; (refine (HGT.out W3 (some ad) e1 K HK.out (by exact HR7.out) HC7.out.1 HC7.out.2).mono ?_); rintro e W5 ⟨rfl, hb⟩; have HX5 := Lib.hid (HX3.out.next hb); have HR75 := Lib.hid (Rd.ups (Rd.below HR7.out hb) hb.size); have HR85 := Lib.hid (Rd.ups (Rd.below HR8.out hb) hb.size); clear hb)
        | (refine wpList_store_rowTo rfl 27 (.tmp 9) (.tmp 45) rfl rfl W5.heap.size zBx rfl rfl 27 zBx (by exact Blk.new W5 _ _) HZS.out rfl HZ1.out ?_))
      have hnr := new_rowP W5 27 zBx zBx
      have HX6 := Lib.hid (HX5.out.next hnr.2)
      have HR76 := Lib.hid (Rd.ups (Rd.below HR75.out hnr.2) hnr.2.size)
      have HR86 := Lib.hid (Rd.ups (Rd.below HR85.out hnr.2) hnr.2.size)
      generalize (W5.alloc (Obj.cells zBx 27)).setRow W5.heap.size zBx = W6 at *
      generalize W5.heap.size = g9 at *
      clear hnr HX3 HX5 HR7 HR75 HR8 HR85 HGT HPK
      have HB6 := Lib.hid HX6.out.bel
      cases s
      all_goals
        refine wp_region_loud W6 [] (fun k u W => True) (by kernel_rfl) (by kernel_rfl) (by kernel_rfl) (by kernel_rfl) (fun k u w1 w2 h hb => trivial) (Below.refl _ _).drew ?_
        repeat (first
          | (refine wpLoud_loadB rfl rfl 27 (.tmp 3) rfl w.heap.size 0 rfl (bxV t1 ep1 nn1 A1 l1.length c1) _ (fun z => rangeAt_blk (HX6.out.a.below z.bel HX6.out.a.lt)) Tryd.underlying27 rfl HNS.out _ (by simp only [Act.put, List.setIfInBounds_toArray, List.set_cons_succ, List.set_cons_zero]; rfl) ?_)
          | (refine wpLoud_loadB rfl rfl 27 (.tmp 4) rfl (w.heap.size + 1) 0 rfl (bxV t2 ep2 nn2 A2 l2.length c2) _ (fun z => rangeAt_blk (HX6.out.b.below z.bel HX6.out.b.lt)) Tryd.underlying27 rfl HNT.out _ (by simp only [Act.put, List.setIfInBounds_toArray, List.set_cons_succ, List.set_cons_zero]; rfl) ?_)
          | (refine wpLoud_call 50 rfl [] (.bool _) 9 (fun g => #[.slice (some ad) F1.length e1, .slice D2 F2.length e2]) rfl (fun _ _ h => by cases h) rfl (fun g w => by kernel_rfl) (fun g y hg => by
              refine (HSF.out y.wd _ _ _ _ e1 e2 (Rd.below HR76.out y.bel) (Rd.below HR86.out y.bel)).mono ?_
              rintro e w' ⟨rfl, q, rfl⟩
              exact ⟨_, rfl, belowDrewN q (Below.refl _ _), rfl⟩) _ (by simp only [Act.put, List.setIfInBounds_toArray, List.set_cons_succ, List.set_cons_zero]; rfl) ?_)
          | (refine wpLoud_call 53 rfl [] (.bool _) 10 (fun g => #[.agg (bxV t1 ep1 nn1 A1 l1.length c1), .agg (bxV t2 ep2 nn2 A2 l2.length c2)]) rfl (fun _ _ h => by cases h) rfl (fun g w => by kernel_rfl) (fun g y hg => by
              refine (HSR.out y.wd (HB6.out.trans (y.bel.mono HB6.out.size))).mono ?_
              rintro e w' ⟨rfl, hb⟩
              exact ⟨_, rfl, hb, rfl⟩) _ (by simp only [Act.put, List.setIfInBounds_toArray, List.set_cons_succ, List.set_cons_zero]; rfl) ?_)
          | (refine wpLoud_call 60 rfl [] (.bool true) 5 (fun g => #[]) rfl (fun _ _ h => by cases h) rfl (fun g w => by kernel_rfl) (fun g y hg => by
              refine (HAW.out y.wd (HB6.out.trans (y.bel.mono HB6.out.size))).mono ?_
              rintro e w' ⟨rfl, hb⟩
              exact ⟨_, rfl, hb, rfl⟩) _ (by simp only [Act.put, List.setIfInBounds_toArray, List.set_cons_succ, List.set_cons_zero]; rfl) ?_)
          | (refine wpLoud_plain rfl rfl rfl ?_; intro K hK; go_big_quiet_op; go_big_quiet_on))
        refine wpLoud_end [] (by rfl) ?_
        intro gg z hg
        have HB7 := Lib.hid (HB6.out.trans (z.bel.mono HB6.out.size))
        generalize z.wd = W7 at *
        simp only [fill, Act.put, List.setIfInBounds_toArray, List.set_cons_succ, List.set_cons_zero]
        go_wp2_with fail
        go_ret
        exact ⟨rfl, HB7.out⟩
end Go.Proofs.YtldjbbcfbjpfcaaDoor
namespace Go.Proofs.YtldjbbcfbjpfcaaDoor
open Go Go.ChangeShapes Go.WideShapes Go.ChangeAt Go.RowKit
set_option maxRecDepth 100000 in
theorem boxApart_lifted (os : Os) (started : os.Started) (H : Type) (enc : TypeId × Value → H) :
    ReturnsInHanded {} Tryd.checked os 3 .any (fun w args => (Rows.boxApartSpec.pre enc Tryd.prog Tryd.f3 [] false w args ∧ laidMetH Tryd.prog laidQ w) ∧ sizedMet enc Tryd.prog Tryd.f3 (OpenSpec.ofChange Rows.boxApartSpec) false w args) (Rows.boxApartSpec.post enc Tryd.prog Tryd.f3 false true false false) := by
  refine liftQ started _ rfl (by kernel_rfl) Tryd.func3 ⟨rfl, fun H ds h => ?_⟩ rfl (of_decide_eq_true (by kernel_rfl))
    (ChangeSpec.witness_shaped (enc := enc) (C := Tryd.checked) (os := os) (X := fun w _ => laidMetH Tryd.prog laidQ w) false (World.doorLaid Tryd.prog 400 os) #[.agg #[.string ByteArray.empty, .int .u32 0, .int .u8 0, .int .u8 0, .int .u8 0, .int .u8 0, .int .u8 0, .int .u8 0, .int .u8 0, .int .u8 0, .int .u8 0, .int .u8 0, .int .u8 0, .int .u8 0, .slice none 0 0], .agg #[.string ByteArray.empty, .int .u32 0, .int .u8 0, .int .u8 0, .int .u8 0, .int .u8 0, .int .u8 0, .int .u8 0, .int .u8 0, .int .u8 0, .int .u8 0, .int .u8 0, .int .u8 0, .int .u8 0, .slice none 0 0], .int .i64 0] 8 rfl (World.shaped_of_RefB (by kernel_rfl) (by kernel_rfl)) (by kernel_rfl) (by kernel_rfl) (by kernel_rfl) (door_met os _)) ?_
  · match ds, h with
    | [_, _, _], _ => rfl
  · intro W base args ds ps hq hval hA hlt
    rw [Tryd.params3] at hA hval
    obtain ⟨v0, vs0, d0, ds0, p0, q0, hargs, rfl, rfl, h0, r0⟩ := trodAll_cons hA
    obtain ⟨v1, vs1, d1, ds1, p1, q1, rfl, rfl, rfl, h1, r1⟩ := trodAll_cons r0
    obtain ⟨v2, vs2, d2, ds2, p2, q2, rfl, rfl, rfl, h2, r2⟩ := trodAll_cons r1
    obtain ⟨rfl, rfl, rfl⟩ := trodAll_nil r2
    obtain rfl : args = #[v0, v1, v2] := by cases args; simp_all
    obtain ⟨t0, e0, nn0, A0, l0, cap0, rfl, ht0, he0, nl0, ns0, hc0, hl0, hr0, hm0⟩ := open_box (hval 0 27 v0 rfl rfl) h0
    obtain ⟨t1, e1, nn1, A1, l1, cap1, rfl, ht1, he1, nl1, ns1, hc1, hl1, hr1, hm1⟩ := open_box (hval 1 27 v1 rfl rfl) h1
    obtain ⟨a2, rfl, rfl, rfl, w2⟩ := open_int Tryd.underlying3 (hval 2 3 v2 rfl rfl) h2
    have hb2 := bounds_i64 w2
    exact apart_c t0 t1 e0 e1 nn0 nn1 l0 l1 A0 A1 cap0 cap1 a2 W ht0 ht1 he0 he1 nl0 nl1 ns0 ns1 hr0 hr1 hl0 hl1 hm0 hm1 hb2.1 hb2.2 hq
theorem boxApart_row : Rows.BoxApartSaid :=
  OpenClaim.holds_of_wide 3 Tryd.f3 rfl rfl rfl rfl rfl rfl rfl ⟨rfl, rfl, rfl, rfl, rfl⟩ rfl rfl rfl rfl rfl (by kernel_rfl) Tryd.func3 (by kernel_rfl)
    (of_decide_eq_true (by kernel_rfl)) (by unfold Func.isWrapper; rw [if_neg (by decide +kernel)]; exact ⟨rfl, rfl⟩)
    (fun os started H enc _ => boxApart_lifted os started H enc)
theorem boxApart_holds : Rows.BoxApartCardSaid :=
  Claim7.holds_tied_plain_at .later [] [.data] true (true, "b4a779a008d4303d23935babded3aff9d466143a5cd06e0849761674518f4920") false
    boxApart_row (fun _ h => by cases h) (by kernel_rfl) (fun _ h => by cases h) boxApart_row_tie rfl ⟨rfl, rfl⟩ (by kernel_rfl) rfl
    (fun f fn hf hfn => by
      obtain rfl : f = 3 := Option.some.inj ((show Tryd.prog.funcNamed "quaestor/quaestorlaw16.BoxApart" = some 3 by kernel_rfl).symm.trans hf) |>.symm
      obtain rfl : fn = Tryd.f3 := (Option.some.inj (Tryd.func3.symm.trans hfn)).symm
      exact ⟨by kernel_rfl, fun j t ht => by
        rw [Tryd.params3] at ht
        have hm : t ∈ [27, 27, 3] := by simpa using Array.mem_of_getElem? ht
        have hall : ([27, 27, 3].all fun u => !Tryd.prog.wantsStandIn u) = true := by kernel_rfl
        exact (show Tryd.prog.wantsStandIn t = false by simpa using List.all_eq_true.1 hall t hm)⟩)
    (by kernel_rfl)
#print axioms boxApart_holds
end Go.Proofs.YtldjbbcfbjpfcaaDoor
