/- BoxEven returns true for any key, nonce, pieces and values. Conditions: the table of the quarters is as its initialiser lays it. -/
import Derived.Test.YtaikejlcpnelpaaDoorZ10
import Derived.Test.YtaikejlcpnelpaaDoorTie
import Derived.Test.YtaikejlcpnelpaaDoorCards
import Derived.SevenTiedAt
/- Contract: a box is laid. -/
namespace Go.Proofs.YtaikejlcpnelpaaDoor
open Go.RowKit
set_option linter.unusedVariables false
set_option linter.unusedSimpArgs false
def putBx (zo : List Nat) (t : ByteArray) (ep : Nat) (nn body : List Nat) : List Nat := (((((zo ++ sh t.size) ++ sby t) ++ form ep 4) ++ nn) ++ sh body.length) ++ body
theorem putBx_len (zo : List Nat) (t : ByteArray) (ep : Nat) (nn body : List Nat) : (putBx zo t ep nn body).length = zo.length + (sh t.size).length + t.size + 4 + nn.length + (sh body.length).length + body.length := by
  unfold putBx; simp only [List.length_append, form_len, sby_size]
theorem bx_rdN {w : World} {g : Nat} {T : TypeId} {t : ByteArray} {ep : Nat} {nn : List Nat} {A : Option Addr} {n c : Nat} (h : Blk w g T (bxV t ep nn A n c)) : Rd w (g + 1) (some ⟨g, 2, none⟩) (byt nn) := fun _ =>
  ⟨_, rfl, Nat.lt_succ_self _, fun j u hu => by
    have e1 : (Addr.add ⟨g, 2, none⟩ j) = ⟨g, 2 + j, none⟩ := by
      unfold Addr.add; split
      · subst_vars; rfl
      · rfl
    rw [e1]
    exact bx_nonce h j u hu⟩
set_option maxRecDepth 100000 in
set_option maxHeartbeats 4000000 in
theorem putBx_c (A0 : Option Addr) (c0 : Nat) (zo nn body : List Nat) (t : ByteArray) (ep : Nat) (A : Option Addr) (c : Nat) (w : World) (hn : nn.length = 12) (he : ep < 4294967296)
    (hr0 : Rd w w.heap.size A0 (byt zo)) (h0 : zo.length ≤ 10000) (hr : Rd w w.heap.size A (byt body)) (hck : checkB t body.length = true) :
    Calls Tryd.prog 23 #[.slice A0 zo.length c0, .agg (bxV t ep nn A body.length c)] w (Gives (putBx zo t ep nn body) w) := by
  obtain ⟨i0, hi, hz0, hz1, hz2⟩ := info_parts byteInfo
  have hck2 := hck
  unfold checkB at hck2
  simp only [Bool.and_eq_true, decide_eq_true_eq] at hck2
  obtain ⟨hnm, h16, h4112⟩ := hck2
  have hts : t.size ≤ 24 := by
    unfold nameB at hnm
    simp only [Bool.and_eq_true, decide_eq_true_eq] at hnm
    exact hnm.2.2
  have HBS := Lib.hid (bxSz t ep (nn := nn) A body.length c hn)
  have HCH := Lib.hid (fun W => check16_c t ep nn A body.length c W hn (by omega) (by omega))
  rw [hck, show okE true = 0 from rfl] at HCH
  obtain ⟨Z, hZ⟩ : ∃ Z, Z = w.alloc (Obj.cells (bxV t ep nn A body.length c) 32) := ⟨_, rfl⟩
  have HBZ := Lib.hid (show Below w.heap.size w Z by rw [hZ]; exact (Below.refl _ _).alloc (Nat.le_refl _) _)
  have HAZ := Lib.hid (show Blk Z w.heap.size 32 (bxV t ep nn A body.length c) by rw [hZ]; exact Blk.new w _ _)
  have hsl : ∀ n, n ≤ 100000 → (sh n).length ≤ 10 := fun n hn => sh64 n (by omega)
  have hs1 := hsl t.size (by omega)
  have hs2 := hsl body.length (by omega)
  have f1 : IntKind.u64.wrap (t.size : Int) = (t.size : Int) := by rw [IntKind.wrap_u64]; omega
  have f2 : IntKind.u64.wrap (ep : Int) = (ep : Int) := by rw [IntKind.wrap_u64]; omega
  have f3 : IntKind.u64.wrap (body.length : Int) = (body.length : Int) := by rw [IntKind.wrap_u64]; omega
  obtain ⟨x1, hx1⟩ : ∃ x, x = zo ++ sh t.size := ⟨_, rfl⟩
  have HP1 := Lib.hid (fun W (h : Rd W W.heap.size A0 (byt zo)) => show Calls Tryd.prog 41 #[.slice A0 zo.length c0, .int .u64 (t.size : Nat)] W (Gives x1 W) by rw [hx1]; exact putSh_c W.heap.size A0 c0 zo t.size W h (by omega) (by omega))
  have hl1 : x1.length ≤ 10010 := by rw [hx1, List.length_append]; omega
  obtain ⟨x2, hx2⟩ : ∃ x, x = x1 ++ sby t := ⟨_, rfl⟩
  have hl2 : x2.length ≤ 10034 := by rw [hx2, List.length_append, sby_size]; omega
  obtain ⟨x3, hx3⟩ : ∃ x, x = x2 ++ form ep 4 := ⟨_, rfl⟩
  have HP3 := Lib.hid (fun W A1 c1 (h : Rd W W.heap.size A1 (byt x2)) => show Calls Tryd.prog 42 #[.slice A1 x2.length c1, .int .u64 (ep : Nat), .int .i64 4] W (Gives x3 W) by
    have h2 := put_c W.heap.size A1 c1 x2 ep 4 W h (by omega) (by decide) (by decide) (by omega)
    rw [tailOf4, ← hx3] at h2
    exact h2)
  have hl3 : x3.length ≤ 10038 := by rw [hx3, List.length_append, form_len]; omega
  obtain ⟨x4, hx4⟩ : ∃ x, x = x3 ++ nn := ⟨_, rfl⟩
  have hl4 : x4.length ≤ 10050 := by rw [hx4, List.length_append]; omega
  obtain ⟨x5, hx5⟩ : ∃ x, x = x4 ++ sh body.length := ⟨_, rfl⟩
  have HP5 := Lib.hid (fun W A1 c1 (h : Rd W W.heap.size A1 (byt x4)) => show Calls Tryd.prog 41 #[.slice A1 x4.length c1, .int .u64 (body.length : Nat)] W (Gives x5 W) by rw [hx5]; exact putSh_c W.heap.size A1 c1 x4 body.length W h (by omega) (by omega))
  have hl5 : x5.length ≤ 10060 := by rw [hx5, List.length_append]; omega
  have HX2 := Lib.hid hx2
  have HX4 := Lib.hid hx4
  have HPL := Lib.hid (show putBx zo t ep nn body = x5 ++ body by rw [hx5, hx4, hx3, hx2, hx1]; rfl)
  have HT := Lib.hid hts
  have HA1 := Lib.hid (show x1.length + t.size ≤ maxLen by simp only [maxLen]; omega)
  have HA2 := Lib.hid (show x1.length + t.size ≤ 140737488355328 by omega)
  have HR0 := Lib.hid (fun W (hb : Below w.heap.size w W) => Rd.ups (Rd.below hr0 hb) hb.size)
  have HR := Lib.hid (fun W (hb : Below w.heap.size w W) => Rd.ups (Rd.below hr hb) hb.size)
  have HN12 := Lib.hid hn
  clear hx1 hx2 hx3 hx4 hx5 hr hr0 hnm h16 hck hsl hs1 hs2
  go_enter Tryd.func23, Tryd.ntmps23
  go_upto_region 1 with (refine Go.Great.wpList_boxTo rfl 32 (.tmp 1) rfl (some 3) rfl w.heap.size rfl (bxV t ep nn A body.length c) rfl ?_)
  rw [← hZ]
  clear hZ
  go_upto_region 3 with (first
    | (refine wpList_load_row rfl 32 (.tmp 3) rfl w.heap.size rfl 32 (bxV t ep nn A body.length c) (0, 0) _ HAZ.out Tryd.underlying32 rfl HBS.out ?_)
    | (go_at_call 34; (refine (HCH.out Z).mono ?_); rintro e W2 ⟨rfl, hb⟩; have HA2' := Lib.hid (HAZ.out.below hb HAZ.out.lt); have HB2 := Lib.hid (HBZ.out.trans (hb.mono HBZ.out.size)); clear hb))
  have d0 := cell_ext (show W2.cell? ⟨w.heap.size, 0, none⟩ = some (.string t) from (HA2'.out.cell 0).trans (bx_c0 ..))
  refine wp_region_loudTail 8 W2 [16] (fun _ u W => OwnB W W2.heap.size u x1) (by kernel_rfl) (by kernel_rfl) (by kernel_rfl) (by kernel_rfl) (fun k u w1 w2 h hb => OwnB.next h hb) (Below.refl _ _).drew ?_
  simp only [List.take_succ_cons, List.take_zero, List.drop_succ_cons, List.drop_zero]
  repeat (first
    | (refine wpLoud_valDP 14 rfl rfl (by kernel_rfl) (fun _ _ h => by cases h) (.int .i64 (t.size : Nat)) (fun x => by kernel_rfl) _ (by simp only [Act.put, List.setIfInBounds_toArray, List.set_cons_succ, List.set_cons_zero]; rfl) ?_)
    | (refine wpLoud_call 16 rfl [] tok 41 (fun g => #[.slice A0 zo.length c0, .int .u64 (t.size : Int)]) rfl (fun _ _ h => by cases h) rfl (fun g w => by kernel_rfl) (fun g y hg => by
        refine (HP1.out y.wd (HR0.out y.wd (HB2.out.trans (y.bel.mono HB2.out.size)))).mono ?_
        rintro e w' ⟨u, rfl, ho, hb⟩
        exact ⟨u, rfl, hb, own_base_le ho y.bel.size⟩) _ (by simp only [Act.put, List.setIfInBounds_toArray, List.set_cons_succ, List.set_cons_zero]; rfl) ?_)
    | (refine wpLoud_plain rfl rfl rfl ?_; intro K hK; go_big_quiet_op; go_big_quiet_on))
  refine wpLoud_end [16] (by rfl) ?_
  intro gg z hg
  have h1 : OwnB z.wd W2.heap.size (gg 16) x1 := hg 16 (by simp)
  have HO3 := Lib.hid h1
  have HA3 := Lib.hid (HA2'.out.below z.bel HA2'.out.lt)
  have HB3 := Lib.hid z.bel
  generalize z.wd = W3 at *
  simp only [fill, Act.put, List.setIfInBounds_toArray, List.set_cons_succ, List.set_cons_zero]
  clear hg h1 d0
  generalize gg 16 = v3 at *
  refine Lib.wpList_append_own_string _ rfl (.tmp 16) (.tmp 18) 30 9 rfl W2.heap.size 5 i0 Tryd.underlying30 Tryd.underlying9 hi hz0 hz1 hz2 v3 x1.length (byt x1) rfl HO3.out t rfl HA1.out HA2.out HB3.out.size ?_
  intro v4 W4 ho hgr _
  have HO4 := Lib.hid (show OwnB W4 W2.heap.size v4 x2 by rw [HX2.out]; exact own_str ho)
  have HB34 := Lib.hid (below_grown HO3.out hgr HB3.out.size)
  have HB4 := Lib.hid (HB3.out.trans HB34.out)
  have HA4 := Lib.hid (HA3.out.below HB34.out HA2'.out.lt)
  clear ho hgr HB34 HO3
  obtain ⟨A4, c4, rfl, _, _, _⟩ := HO4.out.rd
  simp only [Act.put, List.setIfInBounds_toArray, List.set_cons_succ, List.set_cons_zero]
  go_upto_region 4 with fail
  have c1 := cell_ext (show W4.cell? ⟨w.heap.size, 1, none⟩ = some (.int .u32 (ep : Int)) from (HA4.out.cell 1).trans (bx_c1 ..))
  refine wp_region_loudTail 7 W4 [24] (fun _ u W => OwnB W W4.heap.size u x3) (by kernel_rfl) (by kernel_rfl) (by kernel_rfl) (by kernel_rfl) (fun k u w1 w2 h hb => OwnB.next h hb) (Below.refl _ _).drew ?_
  simp only [List.take_succ_cons, List.take_zero, List.drop_succ_cons, List.drop_zero]
  repeat (first
    | (refine wpLoud_call 24 rfl [] tok 42 (fun g => #[.slice A4 x2.length c4, .int .u64 (ep : Int), .int .i64 4]) rfl (fun _ _ h => by cases h) rfl (fun g w => by kernel_rfl) (fun g y hg => by
        obtain ⟨A9, c9, e9, _, _, r9⟩ := (HO4.out.next y.bel).rd
        injection e9 with e9a _ e9c
        subst e9a e9c
        refine (HP3.out y.wd A4 c4 r9).mono ?_
        rintro e w' ⟨u, rfl, ho, hb⟩
        exact ⟨u, rfl, hb, own_base_le ho y.bel.size⟩) _ (by simp only [Act.put, List.setIfInBounds_toArray, List.set_cons_succ, List.set_cons_zero]; rfl) ?_)
    | (refine wpLoud_plain rfl rfl rfl ?_; intro K hK; go_big_quiet_op; go_big_quiet_on))
  refine wpLoud_end [24] (by rfl) ?_
  intro gg z hg
  have h1 : OwnB z.wd W4.heap.size (gg 24) x3 := hg 24 (by simp)
  have HO5 := Lib.hid h1
  have HB45 := Lib.hid z.bel
  have HA5 := Lib.hid (HA4.out.below z.bel HA4.out.lt)
  generalize z.wd = W5 at *
  simp only [fill, Act.put, List.setIfInBounds_toArray, List.set_cons_succ, List.set_cons_zero]
  clear hg h1 c1 HO4
  generalize gg 24 = v5 at *
  have HRN := Lib.hid (show Rd W5 (w.heap.size + 1) (some ⟨w.heap.size, 2, none⟩) (byt nn) from bx_rdN HA5.out)
  refine wpList_app _ rfl (.tmp 24) (.tmp 26) _ rfl W4.heap.size 5 i0 (.int .u8 0) 1 1 Tryd.underlying30 hi hz0 hz1 hz2 rfl (by decide) v5 x3.length (byt x3) rfl HO5.out _ (some ⟨w.heap.size, 2, none⟩) 12 12 (byt nn) rfl (by rw [byt_len, HN12.out]) HRN.out (byt_one nn) (by omega) (by omega) HB45.out.size ?_
  intro v6 W6 hap
  have HO6 := Lib.hid (show OwnB W6 W4.heap.size v6 x4 by
    rw [HX4.out]
    have h := OwnB.app (l := x3) (m := nn) (w' := W6) (base := W4.heap.size) (v := v5) (v' := v6) (w := W5) (by rw [HN12.out]; exact hap)
    exact h)
  have HB56 := Lib.hid (hap.below HO5.out HB45.out.size)
  have HB46 := Lib.hid (HB45.out.trans HB56.out)
  have HA6 := Lib.hid (HA5.out.below HB56.out HA4.out.lt)
  clear hap HB56 HO5
  obtain ⟨A6, c6, rfl, _, _, _⟩ := HO6.out.rd
  simp only [Act.put, List.setIfInBounds_toArray, List.set_cons_succ, List.set_cons_zero]
  go_upto_region 5 with fail
  have c14 := cell_ext (show W6.cell? ⟨w.heap.size, 14, none⟩ = some (.slice A body.length c) from (HA6.out.cell 14).trans (bx_c14 _ _ _ _ _ HN12.out))
  refine wp_region_loudTail 8 W6 [33] (fun _ u W => OwnB W W6.heap.size u x5) (by kernel_rfl) (by kernel_rfl) (by kernel_rfl) (by kernel_rfl) (fun k u w1 w2 h hb => OwnB.next h hb) (Below.refl _ _).drew ?_
  simp only [List.take_succ_cons, List.take_zero, List.drop_succ_cons, List.drop_zero]
  repeat (first
    | (refine wpLoud_valDP 31 rfl rfl (by kernel_rfl) (fun _ _ h => by cases h) (.int .i64 (body.length : Nat)) (fun x => by kernel_rfl) _ (by simp only [Act.put, List.setIfInBounds_toArray, List.set_cons_succ, List.set_cons_zero]; rfl) ?_)
    | (refine wpLoud_call 33 rfl [] tok 41 (fun g => #[.slice A6 x4.length c6, .int .u64 (body.length : Int)]) rfl (fun _ _ h => by cases h) rfl (fun g w => by kernel_rfl) (fun g y hg => by
        obtain ⟨A9, c9, e9, _, _, r9⟩ := (HO6.out.next y.bel).rd
        injection e9 with e9a _ e9c
        subst e9a e9c
        refine (HP5.out y.wd A6 c6 r9).mono ?_
        rintro e w' ⟨u, rfl, ho, hb⟩
        exact ⟨u, rfl, hb, own_base_le ho y.bel.size⟩) _ (by simp only [Act.put, List.setIfInBounds_toArray, List.set_cons_succ, List.set_cons_zero]; rfl) ?_)
    | (refine wpLoud_plain rfl rfl rfl ?_; intro K hK; go_big_quiet_op; go_big_quiet_on))
  refine wpLoud_end [33] (by rfl) ?_
  intro gg z hg
  have h1 : OwnB z.wd W6.heap.size (gg 33) x5 := hg 33 (by simp)
  have HO7 := Lib.hid h1
  have HB67 := Lib.hid z.bel
  generalize z.wd = W7 at *
  simp only [fill, Act.put, List.setIfInBounds_toArray, List.set_cons_succ, List.set_cons_zero]
  clear hg h1 c14 HO6
  generalize gg 33 = v7 at *
  have HB26 := Lib.hid (show Below W2.heap.size W2 W6 from HB4.out.trans (HB46.out.mono HB4.out.size))
  have HBw6 := Lib.hid (show Below w.heap.size w W6 from HB2.out.trans (HB26.out.mono HB2.out.size))
  have HBw7 := Lib.hid (show Below w.heap.size w W7 from HBw6.out.trans (HB67.out.mono HBw6.out.size))
  refine wpList_app _ rfl (.tmp 33) (.tmp 35) _ rfl W6.heap.size 5 i0 (.int .u8 0) 1 1 Tryd.underlying30 hi hz0 hz1 hz2 rfl (by decide) v7 x5.length (byt x5) rfl HO7.out _ A body.length c (byt body) rfl (by rw [byt_len]; omega) (HR.out W7 HBw7.out) (byt_one body) (by omega) (by omega) HB67.out.size ?_
  intro v8 W8 hap
  have HO8 := Lib.hid (show OwnB W8 W6.heap.size v8 (x5 ++ body) from OwnB.app hap)
  have HB8 := Lib.hid (show Below w.heap.size w W8 from HBw7.out.trans ((hap.below HO7.out HB67.out.size).mono HBw6.out.size))
  clear hap HO7
  simp only [Act.put, List.setIfInBounds_toArray, List.set_cons_succ, List.set_cons_zero]
  go_wp2_with fail
  go_ret
  exact ⟨_, rfl, by rw [HPL.out]; exact own_base_le HO8.out HBw6.out.size, HB8.out⟩
end Go.Proofs.YtaikejlcpnelpaaDoor
/- BoxEven, walked. -/
namespace Go.Proofs.YtaikejlcpnelpaaDoor
open Go.RowKit
set_option linter.unusedVariables false
set_option linter.unusedSimpArgs false
theorem run_lenG {P : Program} {o : Oper} {ρ : Operand → Value} (s : Operand) (T : TypeId) {e : TypeId} (ht : P.underlying T = some (.slice e)) {A : Option Addr} {n c : Nat} (ho : o.op = .call { callee := .builtin .len, args := #[s], argTypes := #[T] }) (hs : ρ s = .slice A n c) (x : World) :
    (execOp ρ o).run P x = .ok (.value (.int .i64 (n : Nat))) x := by
  unfold execOp
  simp only [ho, resolve, invoke, builtin, Sem.run_bind, Sem.run_pure, Result.andThen_ok, List.map_toArray, List.map_cons, List.map_nil, hs]
  simp [Builtin.len_, run_underlying ht, goInt]
theorem rd_ofB {w : World} {base : Nat} {A : Option Addr} {n c : Nat} {l : List Nat} (hn : l.length = n) (h : OwnB w base (.slice A n c) l) : Rd w w.heap.size A (byt l) := OwnB.rdAtP h
theorem RdP.upsE {w w' : World} {n m : Nat} {A : Option Addr} {l : List Pc} (h : RdP w n A l) (hb : Below n w w') (hm : n ≤ m) : RdP w' m A l := Rd.ups (Rd.below h hb) hm
set_option maxRecDepth 100000 in
set_option maxHeartbeats 4000000 in
theorem putNo_c (A0 : Option Addr) (c0 : Nat) (zo nn : List Nat) (t : ByteArray) (ep : Nat) (A : Option Addr) (n c : Nat) (w : World) (hn : nn.length = 12) (ht : t.size ≤ 1000000) (hb : n ≤ 1000000000)
    (hr0 : Rd w w.heap.size A0 (byt zo)) (h0 : zo.length ≤ 10000) (hck : checkB t n = false) :
    Calls Tryd.prog 23 #[.slice A0 zo.length c0, .agg (bxV t ep nn A n c)] w (Gives zo w) := by
  have HBS := Lib.hid (bxSz t ep (nn := nn) A n c hn)
  have HCH := Lib.hid (fun W => check16_c t ep nn A n c W hn (by omega) (by omega))
  rw [hck, show okE false = 1 from rfl] at HCH
  obtain ⟨Z, hZ⟩ : ∃ Z, Z = w.alloc (Obj.cells (bxV t ep nn A n c) 32) := ⟨_, rfl⟩
  have HBZ := Lib.hid (show Below w.heap.size w Z by rw [hZ]; exact (Below.refl _ _).alloc (Nat.le_refl _) _)
  have HAZ := Lib.hid (show Blk Z w.heap.size 32 (bxV t ep nn A n c) by rw [hZ]; exact Blk.new w _ _)
  have HCL := Lib.hid (fun W (hb : Below w.heap.size w W) => clone_c W.heap.size A0 c0 zo W (Rd.ups (Rd.below hr0 hb) hb.size) (by omega))
  clear hr0 hck hb
  go_enter Tryd.func23, Tryd.ntmps23
  go_upto_region 1 with (refine Go.Great.wpList_boxTo rfl 32 (.tmp 1) rfl (some 3) rfl w.heap.size rfl (bxV t ep nn A n c) rfl ?_)
  rw [← hZ]
  clear hZ
  go_wp2_with (first
    | (refine wpList_load_row rfl 32 (.tmp 3) rfl w.heap.size rfl 32 (bxV t ep nn A n c) (0, 0) _ HAZ.out Tryd.underlying32 rfl HBS.out ?_)
    | (go_at_call 34; (refine (HCH.out Z).mono ?_); rintro e W2 ⟨rfl, hb⟩; have HB2 := Lib.hid (HBZ.out.trans (hb.mono HBZ.out.size)); clear hb)
    | (go_at_call 40; (refine (HCL.out W2 HB2.out).mono ?_); rintro e W3 ⟨v3, rfl, ho, hb⟩; have HO3 := Lib.hid (own_base_le ho HB2.out.size); have HB3 := Lib.hid (HB2.out.trans (hb.mono HB2.out.size)); clear ho hb))
  go_ret
  exact ⟨_, rfl, HO3.out, HB3.out⟩
set_option maxRecDepth 100000 in
set_option maxHeartbeats 8000000 in
theorem boxEven_c (k nn : List Nat) (A A2 : Option Addr) (ca c2 : Nat) (l : List Pc) (vs : List Int) (w : World) (hk : k.length = 32) (hkl : ∀ c ∈ k, c < 256) (hn : nn.length = 12) (hnl : ∀ c ∈ nn, c < 256) (hr : RdP w w.heap.size A l) (hv : Rd w w.heap.size A2 (ivs vs)) (hc : l.length ≤ ca) (hl : ∀ p ∈ l, PcOk p ∧ p.s.size ≤ 9223372036854775807) (h1 : l.length ≤ 9223372036854775807) (hvs : ∀ v ∈ vs, -9223372036854775808 ≤ v ∧ v ≤ 9223372036854775807) (hq : QuartersAt w) :
    Calls Tryd.prog 5 #[.agg (vb k), .agg (vb nn), .slice A l.length ca, .slice A2 vs.length c2] w fun e w' => e = .returned (.bool true) ∧ Below w.heap.size w w' := by
  have HB := Lib.hid (Kbx.begin w k nn)
  have HAW := Lib.hid (fun W (hb : Below w.heap.size w W) => awake16_c W (hq.next hb))
  have HG := Lib.hid (fun W (hb : Below w.heap.size w W) => great_c w.heap.size A ca l 60 W (Rd.below hr hb) h1 (by decide) (fun p hp => (hl p hp).2))
  cases hgr : greatB l 60 with
  | true =>
    rw [hgr] at HG
    clear hr hl hkl hnl hq hvs hv
    go_enter Tryd.func5, Tryd.ntmps5
    go_upto_region 1 with (first
      | (refine Go.Great.wpList_boxTo rfl 23 (.tmp 0) rfl (some 4) rfl w.heap.size rfl (vb k) rfl ?_)
      | (refine Go.Great.wpList_boxTo rfl 25 (.tmp 1) rfl (some 5) rfl (w.heap.size + 1) (by simp) (vb nn) rfl ?_))
    generalize (w.alloc (Obj.cells (vb k) 23)).alloc (Obj.cells (vb nn) 25) = Z at *
    have HBZ := Lib.hid HB.out.bel
    go_wp2_with (first
      | (go_at_call 8; (refine (HG.out Z HB.out.bel).mono ?_); rintro e W0 ⟨rfl, rfl⟩)
      | (go_at_call 9; (refine (HAW.out Z HBZ.out).mono ?_); rintro e W9 ⟨rfl, hb⟩; have HB9 := Lib.hid (HBZ.out.trans (hb.mono HBZ.out.size)); clear hb))
    go_ret
    exact ⟨rfl, HB9.out⟩
  | false =>
    rw [hgr] at HG
    obtain ⟨hnum, hsz⟩ := greatB_no hgr
    have HK := Lib.hid (fun p (hp : p ∈ l) => show PcOk p ∧ p.s.size ≤ 1000000 from ⟨(hl p hp).1, by have := hsz p hp; omega⟩)
    have HVS := Lib.hid (fun k => vset_ok hvs (n := 1000000) (l := l) k HK.out)
    have HV := Lib.hid hv
    have HR := Lib.hid hr
    obtain ⟨i0, hi, hz0, hz1, hz2⟩ := piece_parts
    have HNK := Lib.hid (keySz hk)
    have HNN := Lib.hid (nnSz hn)
    have zf := zero_bx
    have zs1 : zBx.size = 15 := by rfl
    have zs2 : ¬ zBx = #[] := by intro h; have := congrArg Array.size h; rw [zs1] at this; cases this
    have HKL := Lib.hid hkl
    have HNL := Lib.hid hnl
    have HQ := Lib.hid hq
    clear hgr hl h1 hsz hv hr hvs hkl hnl hq
    go_enter Tryd.func5, Tryd.ntmps5
    go_upto_region 1 with (first
      | (refine Go.Great.wpList_boxTo rfl 23 (.tmp 0) rfl (some 4) rfl w.heap.size rfl (vb k) rfl ?_)
      | (refine Go.Great.wpList_boxTo rfl 25 (.tmp 1) rfl (some 5) rfl (w.heap.size + 1) (by simp) (vb nn) rfl ?_))
    generalize (w.alloc (Obj.cells (vb k) 23)).alloc (Obj.cells (vb nn) 25) = Z at *
    have HO0 := Lib.hid (World.ownsRow_made (base := Z.heap.size) (e := 57) (size := 5) Z #[] 0 (Nat.le_refl _) (by simp [maxLen]) rfl)
    have HB0 := Lib.hid (show Below Z.heap.size Z (Z.alloc (Obj.cells #[] 57)) from (Below.refl _ _).alloc (Nat.le_refl _) _)
    have HRZ := Lib.hid (fun W (hb : Below Z.heap.size Z W) => show RdP W w.heap.size A l from Rd.below HR.out (HB.out.bel.trans (hb.mono HB.out.bel.size)))
    have HVZ := Lib.hid (show Rd Z w.heap.size A2 (ivs vs) from Rd.below HV.out HB.out.bel)
    generalize hW0 : Z.alloc (Obj.cells #[] 57) = W0 at *
    go_upto_region 4 with (first
      | (go_at_call 8; (refine (HG.out Z HB.out.bel).mono ?_); rintro e W00 ⟨rfl, rfl⟩)
      | (at_builtin; go_loud (refine wpList_app _ rfl (.tmp 18) (.tmp 19) _ rfl Z.heap.size 57 i0 (.agg zPc) 5 48 Tryd.underlying27 hi hz0 hz1 hz2 rfl (by decide) _ _ _ rfl HO0.out _ _ l.length _ (pcs l) rfl (pcs_len l) (HRZ.out _ HB0.out) (pcs_oneCell l) (by omega) (by omega) HB0.out.size ?_; intro v1 W1 hap; have HO1 := Lib.hid (show OwnP W1 Z.heap.size v1 l by have h := hap.own; rw [List.nil_append, Nat.zero_add] at h; exact h); have HB1 := Lib.hid (HB0.out.trans (hap.below HO0.out HB0.out.size)); clear hap)))
    obtain ⟨Am, cm, rfl, hcm, _, _⟩ := HO1.out.rd
    go_wp2_with fail
    go_loopw [10] (fun i wr => ∃ k : Nat, k ≤ l.length ∧ k ≤ vs.length ∧ i = .int .i64 k ∧ OwnP wr Z.heap.size (.slice Am l.length cm) (vset vs l k) ∧ Below Z.heap.size Z wr) (fun i _ => l.length - (intOf i).toNat)
    case atStart => exact ⟨0, Nat.zero_le _, Nat.zero_le _, rfl, by rw [vset_zero]; exact HO1.out, HB1.out⟩
    case round =>
      rename World => wr
      obtain ⟨j, hj, hjv, rfl, ho, hb⟩ := hrel
      have HO := Lib.hid ho
      have HBR := Lib.hid hb
      clear ho hb HO1 HB1 HO0 HB0 hW0
      by_cases hlt : j < l.length ∧ j < vs.length
      · obtain ⟨hlt, hltv⟩ := hlt
        have p1 : (j : Int) < (l.length : Int) := by omega
        have p2 : (j : Int) < (vs.length : Int) := by omega
        obtain ⟨ad, rfl, hab, e1⟩ := ivs_cell HVZ.out j hltv
        have e1 := (HBR.out.cell (p := ad.add j) (by rw [add_block]; have := HB.out.bel.size; omega)).trans e1
        obtain ⟨g, rest, rfl, hg, hbk, hcc, hcm2, hrl⟩ := HO.out.open_ (by rw [vset_len]; omega)
        have e2 := (hbk.cell (j * 5 + 2)).trans (show (pcs (vset vs l j) ++ rest).toArray[j * 5 + 2]? = some (.int .i64 (l.getD j pc0).v) by
          rw [List.getElem?_toArray, List.getElem?_append_left (by rw [pcs_len, vset_len]; omega), pcs_at _ j 2 (by rw [vset_len]; exact hlt) (by decide), vset_at vs l j hlt j (Nat.le_refl _)]
          rfl)
        have e3 := hbk.free (j * 5 + 2)
        have HBS := Lib.hid (hbk.set_ (j * 5 + 2) (.int .i64 (vs.getD j 0)))
        have HGE := Lib.hid hg
        have HSU := Lib.hid (vset_succ vs l j hltv hlt)
        have HPS := Lib.hid (pcs_setV (vset vs l j) j (vs.getD j 0) (by rw [vset_len]; exact hlt))
        rw [vset_at vs l j hlt j (Nat.le_refl _), ← HSU.out] at HPS
        have HRL := Lib.hid hrl
        generalize hx : vs.getD j 0 = x at *
        generalize (l.getD j pc0).v = y at *
        clear hbk hg HSU hx hrl
        go_wp2_with fail
        go_roundw
        case rel =>
          refine ⟨j + 1, by omega, by omega, by go_num, ?_, ?_⟩
          · have h := HBS.out
            rw [List.setIfInBounds_toArray, List.set_append_left _ _ (by rw [pcs_len, vset_len]; omega), HPS.out] at h
            have h2 := OwnP.ofBlk (cap := cm) HGE.out h (by rw [vset_len] at hcc ⊢; exact hcc) hcm2 (by have := HRL.out; rw [vset_len] at this ⊢; exact this)
            rw [vset_len] at h2
            exact h2
          · exact HBR.out.setCell HGE.out _
        case measure => simp only [intOf]; omega
      · have HMK := Lib.hid (HVS.out j)
        have HLK := Lib.hid (show (vset vs l j).map noV = l.map noV from vset_noV vs l j)
        have HML := Lib.hid (vset_len vs l j)
        have HKW := Lib.hid (show Kbx w wr k nn from HB.out.next (HBR.out.mono HB.out.sz))
        have HMR := Lib.hid (show RdP wr wr.heap.size Am (vset vs l j) from HO.out.rdAt)
        generalize hM : vset vs l j = M at *
        have hcl := chkL_like HLK.out
        have hll := layR_like HLK.out (fun p hp => (HMK.out p hp).1) (fun p hp => (HK.out p hp).1)
        have hle := layR_le (fun p hp => (HK.out p hp).1)
        obtain ⟨t1, ep1, nn1, b1, b2, E, N, hn1, hb12, HS1, HS2, HPU⟩ : ∃ (t1 : ByteArray) (ep1 : Nat) (nn1 b1 b2 : List Nat) (E N : Nat), nn1.length = 12 ∧ b2.length = b1.length
            ∧ Hid (∀ W, Below w.heap.size w W → Calls Tryd.prog 10 #[.agg (vb k), .agg (vb nn), .string tT, .int .u32 (1 : Nat), .slice A l.length ca] W (BoxR t1 ep1 nn1 b1 E W))
            ∧ Hid (∀ W, Below w.heap.size w W → RdP W W.heap.size Am M → Calls Tryd.prog 10 #[.agg (vb k), .agg (vb nn), .string tT, .int .u32 (1 : Nat), .slice Am l.length cm] W (BoxR t1 ep1 nn1 b2 E W))
            ∧ Hid (∀ W A' c' b, b.length = b1.length → Rd W W.heap.size A' (byt b) → Calls Tryd.prog 23 #[.slice none 0 0, .agg (bxV t1 ep1 nn1 A' b1.length c')] W fun e w' => ∃ v, e = .returned v ∧ ∃ out : List Nat, out.length = N ∧ OwnB w' W.heap.size v out ∧ Below W.heap.size W w') := by
          by_cases h0 : chkL l = 0
          · have h0m : chkL M = 0 := by rw [hcl]; exact h0
            have hLl : layR l = layL l := by unfold layR; rw [if_pos h0]
            have hLm : layR M = layL M := by unfold layR; rw [if_pos h0m]
            have hbl1 : (boxL k nn tT 1 l).length = (layL l).length + 16 := seal_len ..
            have hbl2 : (boxL k nn tT 1 M).length = (layL M).length + 16 := seal_len ..
            rw [hLl, hLm] at hll
            rw [hLl] at hle
            refine ⟨tT, 1, nn, boxL k nn tT 1 l, boxL k nn tT 1 M, 0, (putBx [] tT 1 nn (boxL k nn tT 1 l)).length, hn, by omega, Lib.hid fun W hb => ?_, Lib.hid fun W hb hm => ?_, Lib.hid fun W A' c' b hbl hrb => ?_⟩
            · exact sealYes_c k nn tT 1 A ca l W hk HKL.out hn HNL.out (by decide) (by decide) (Rd.ups (Rd.below HR.out hb) hb.size) hc (by omega) HK.out ex_name.1 h0 (HQ.out.next hb)
            · have h := sealYes_c k nn tT 1 Am cm M W hk HKL.out hn HNL.out (by decide) (by decide) hm (by rw [HML.out]; exact hcm) (by rw [HML.out]; omega) HMK.out ex_name.1 h0m (HQ.out.next hb)
              rw [HML.out] at h
              exact h
            · have hck : checkB tT b.length = true := by
                unfold checkB
                rw [ex_name.1, hbl, hbl1]
                simp
                omega
              have h := putBx_c none 0 [] nn b tT 1 A' c' W hn (by decide) (Rd.nil_ _ _ _) (by decide) hrb hck
              rw [hbl] at h
              refine Calls.mono h ?_
              rintro e w' ⟨v, rfl, ho, hb⟩
              exact ⟨v, rfl, _, by rw [putBx_len, putBx_len, hbl], ho, hb⟩
          · have h0m : chkL M ≠ 0 := by rw [hcl]; exact h0
            have hE : sealE tT l = chkL l := by unfold sealE; rw [ex_name.1]; rfl
            have hEm : sealE tT M = chkL l := by unfold sealE; rw [ex_name.1, ← hcl]; rfl
            refine ⟨ByteArray.empty, 0, n12z, [], [], chkL l, 0, rfl, rfl, Lib.hid fun W hb => ?_, Lib.hid fun W hb hm => ?_, Lib.hid fun W A' c' b hbl hrb => ?_⟩
            · have h := sealNo_c k nn tT 1 A ca l W hk HKL.out hn HNL.out (by decide) (by decide) (Rd.ups (Rd.below HR.out hb) hb.size) hc (by omega) HK.out (by rw [hE]; exact h0)
              rw [hE] at h
              exact h
            · have h := sealNo_c k nn tT 1 Am cm M W hk HKL.out hn HNL.out (by decide) (by decide) hm (by rw [HML.out]; exact hcm) (by rw [HML.out]; omega) HMK.out (by rw [hEm]; exact h0)
              rw [hEm, HML.out] at h
              exact h
            · refine Calls.mono (putNo_c none 0 [] n12z ByteArray.empty 0 A' 0 c' W rfl (by decide) (by decide) (Rd.nil_ _ _ _) (by decide) (by decide +kernel)) ?_
              rintro e w' ⟨v, rfl, ho, hb⟩
              exact ⟨v, rfl, [], rfl, ho, hb⟩
        have HBI := Lib.hid (fun A n c => bxSz t1 ep1 (nn := nn1) A n c hn1)
        have HBQ := Lib.hid (fun A n c => show zBx.size = (bxV t1 ep1 nn1 A n c).size by rw [zBx_size]; unfold bxV; rw [List.size_toArray, bxL_len t1 ep1 A n c hn1])
        have HBL := Lib.hid hb12
        generalize hx1 : b1.length = n1 at *
        have HN1 := Lib.hid hx1
        clear hx1 hcl hll hle hb12 hn1 hM
        clear HLK HMK HK HVS
        rcases Nat.lt_or_ge j l.length with hkl | hkl
        · have p1 : (j : Int) < (l.length : Int) := by omega
          have p2 : ¬ (j : Int) < (vs.length : Int) := by omega
          clear hlt
          go_upto_region 9 with (first
            | (refine wpList_load_row rfl 23 (.tmp 4) rfl w.heap.size rfl 23 (vb k) (0, 0) _ HKW.out.kA Tryd.underlying23 rfl HNK.out ?_)
            | (refine wpList_load_row rfl 25 (.tmp 5) rfl (w.heap.size + 1) rfl 25 (vb nn) (0, 0) _ HKW.out.nA Tryd.underlying25 rfl HNN.out ?_)
            | (go_at_call 10; (refine (HS1.out wr HKW.out.bel).mono ?_); rintro e W2 ⟨A1, c1, rfl, ho, hb⟩; rw [HN1.out] at ho ⊢; have HO2 := Lib.hid ho; have HK2 := Lib.hid (HKW.out.next (hb.mono HKW.out.sz)); have HM2 := Lib.hid (RdP.upsE HMR.out hb hb.size); clear ho hb)
            | (refine wpList_store_rowTo rfl 32 (.tmp 11) (.tmp 46) rfl rfl W2.heap.size (bxV t1 ep1 nn1 A1 n1 c1) rfl rfl 32 zBx (by exact Blk.new W2 _ _) (HBI.out ..) (HBQ.out ..) (bx_all _ _ _ _ _ _) ?_))
          have hnr := new_rowP W2 32 zBx (bxV t1 ep1 nn1 A1 n1 c1)
          have HX3 := Lib.hid hnr.1
          have HK3 := Lib.hid (HK2.out.next (hnr.2.mono HK2.out.sz))
          have HM3 := Lib.hid (RdP.upsE HM2.out hnr.2 hnr.2.size)
          have HO3 := Lib.hid (OwnB.next (l := b1) (show OwnB W2 _ _ b1 from HO2.out) hnr.2)
          generalize (W2.alloc (Obj.cells zBx 32)).setRow W2.heap.size (bxV t1 ep1 nn1 A1 n1 c1) = W3 at *
          generalize W2.heap.size = gb at *
          clear hnr HO2 HK2 HM2
          go_upto_region 10 with (first
            | (refine wpList_load_row rfl 23 (.tmp 4) rfl w.heap.size rfl 23 (vb k) (0, 0) _ HK3.out.kA Tryd.underlying23 rfl HNK.out ?_)
            | (refine wpList_load_row rfl 25 (.tmp 5) rfl (w.heap.size + 1) rfl 25 (vb nn) (0, 0) _ HK3.out.nA Tryd.underlying25 rfl HNN.out ?_)
            | (go_at_call 10; (refine (HS2.out W3 HK3.out.bel HM3.out).mono ?_); rintro e W4 ⟨A4, c4, rfl, ho, hb⟩; rw [HBL.out] at ho ⊢; have HO4 := Lib.hid ho; have HK4 := Lib.hid (HK3.out.next (hb.mono HK3.out.sz)); have HX4 := Lib.hid (HX3.out.below hb HX3.out.lt); have HO1 := Lib.hid (OwnB.next (l := b1) HO3.out hb); clear ho hb)
            | (refine wpList_store_rowTo rfl 32 (.tmp 13) (.tmp 53) rfl rfl W4.heap.size (bxV t1 ep1 nn1 A4 n1 c4) rfl rfl 32 zBx (by exact Blk.new W4 _ _) (HBI.out ..) (HBQ.out ..) (bx_all _ _ _ _ _ _) ?_))
          have hnr := new_rowP W4 32 zBx (bxV t1 ep1 nn1 A4 n1 c4)
          have HY5 := Lib.hid hnr.1
          have HX5 := Lib.hid (HX4.out.below hnr.2 HX4.out.lt)
          have HK5 := Lib.hid (HK4.out.next (hnr.2.mono HK4.out.sz))
          have HA5 := Lib.hid (rd_ofB HN1.out (OwnB.next (l := b1) HO1.out hnr.2))
          have HD5 := Lib.hid (rd_ofB HBL.out (OwnB.next (l := b2) HO4.out hnr.2))
          generalize (W4.alloc (Obj.cells zBx 32)).setRow W4.heap.size (bxV t1 ep1 nn1 A4 n1 c4) = W5 at *
          generalize W4.heap.size = gc at *
          clear hnr HO4 HO1 HO3 HK4 HX4 HM3 HK3 HX3 HS1 HS2 HMR HKW
          refine wp_region_loud W5 [60, 63] (fun _ u W => ∃ out : List Nat, out.length = N ∧ OwnB W W5.heap.size u out) (by kernel_rfl) (by kernel_rfl) (by kernel_rfl) (by kernel_rfl) (fun k u w1 w2 h hb => by obtain ⟨out, h1, h2⟩ := h; exact ⟨out, h1, OwnB.next h2 hb⟩) (Below.refl _ _).drew ?_
          repeat (first
            | (refine wpLoud_loadB rfl rfl 32 (.tmp 11) rfl gb 0 rfl (bxV t1 ep1 nn1 A1 n1 c1) _ (fun z => rangeAt_blk (HX5.out.below z.bel HX5.out.lt)) Tryd.underlying32 rfl (by rw [Array.length_toList]; exact HBI.out ..) _ (by simp only [Act.put, List.setIfInBounds_toArray, List.set_cons_succ, List.set_cons_zero]; rfl) ?_)
            | (refine wpLoud_loadB rfl rfl 32 (.tmp 13) rfl gc 0 rfl (bxV t1 ep1 nn1 A4 n1 c4) _ (fun z => rangeAt_blk (HY5.out.below z.bel HY5.out.lt)) Tryd.underlying32 rfl (by rw [Array.length_toList]; exact HBI.out ..) _ (by simp only [Act.put, List.setIfInBounds_toArray, List.set_cons_succ, List.set_cons_zero]; rfl) ?_)
            | (refine wpLoud_call 60 rfl [] tok 23 (fun g => #[.slice none 0 0, .agg (bxV t1 ep1 nn1 A1 n1 c1)]) rfl (fun _ _ h => by cases h) rfl (fun g w => by kernel_rfl) (fun g y hg => by
                refine (HPU.out y.wd A1 c1 b1 HN1.out (Rd.ups (Rd.below HA5.out y.bel) y.bel.size)).mono ?_
                rintro e w' ⟨u, rfl, out, ho1, ho, hb⟩
                exact ⟨u, rfl, hb, ⟨out, ho1, own_base_le ho y.bel.size⟩⟩) _ (by simp only [Act.put, List.setIfInBounds_toArray, List.set_cons_succ, List.set_cons_zero]; rfl) ?_)
            | (refine wpLoud_call 63 rfl [] tok 23 (fun g => #[.slice none 0 0, .agg (bxV t1 ep1 nn1 A4 n1 c4)]) rfl (fun _ _ h => by cases h) rfl (fun g w => by kernel_rfl) (fun g y hg => by
                refine (HPU.out y.wd A4 c4 b2 HBL.out (Rd.ups (Rd.below HD5.out y.bel) y.bel.size)).mono ?_
                rintro e w' ⟨u, rfl, out, ho1, ho, hb⟩
                exact ⟨u, rfl, hb, ⟨out, ho1, own_base_le ho y.bel.size⟩⟩) _ (by simp only [Act.put, List.setIfInBounds_toArray, List.set_cons_succ, List.set_cons_zero]; rfl) ?_)
            | (refine wpLoud_valN 61 rfl rfl [60] (.int .i64 (N : Nat)) rfl (fun _ _ h => by cases h) rfl (fun g x h => by
                obtain ⟨out, h1, h2⟩ : ∃ out : List Nat, out.length = N ∧ OwnB x.wd W5.heap.size (g 60) out := h 60 (by simp)
                obtain ⟨A7, c7, e7, _, _, _⟩ := h2.rd
                rw [h1] at e7
                exact run_lenG (.tmp 60) 30 Tryd.underlying30 rfl e7 _) _ (by simp only [Act.put, List.setIfInBounds_toArray, List.set_cons_succ, List.set_cons_zero]; rfl) ?_)
            | (refine wpLoud_valN 64 rfl rfl [63] (.int .i64 (N : Nat)) rfl (fun _ _ h => by cases h) rfl (fun g x h => by
                obtain ⟨out, h1, h2⟩ : ∃ out : List Nat, out.length = N ∧ OwnB x.wd W5.heap.size (g 63) out := h 63 (by simp)
                obtain ⟨A7, c7, e7, _, _, _⟩ := h2.rd
                rw [h1] at e7
                exact run_lenG (.tmp 63) 30 Tryd.underlying30 rfl e7 _) _ (by simp only [Act.put, List.setIfInBounds_toArray, List.set_cons_succ, List.set_cons_zero]; rfl) ?_)
            | (refine wpLoud_call 68 rfl [] (.bool true) 9 (fun g => #[]) rfl (fun _ _ h => by cases h) rfl (fun g w => by kernel_rfl) (fun g y hg => by
                refine (HAW.out y.wd (HK5.out.bel.trans (y.bel.mono HK5.out.bel.size))).mono ?_
                rintro e w' ⟨rfl, hb⟩
                exact ⟨_, rfl, hb, rfl⟩) _ (by simp only [Act.put, List.setIfInBounds_toArray, List.set_cons_succ, List.set_cons_zero]; rfl) ?_)
            | (refine wpLoud_plain rfl rfl rfl ?_; intro K hK; go_big_quiet_op; go_big_quiet_on))
          refine wpLoud_end [] (by rfl) ?_
          intro gg z hg
          have HB9 := Lib.hid (HK5.out.bel.trans (z.bel.mono HK5.out.bel.size))
          generalize z.wd = Y at *
          simp only [fill, Act.put, List.setIfInBounds_toArray, List.set_cons_succ, List.set_cons_zero]
          generalize gg 60 = x60 at *
          generalize gg 63 = x63 at *
          go_wp2_with fail
          go_ret
          exact ⟨rfl, HB9.out⟩
        · have p1 : ¬ (j : Int) < (l.length : Int) := by omega
          clear hlt
          go_upto_region 9 with (first
            | (refine wpList_load_row rfl 23 (.tmp 4) rfl w.heap.size rfl 23 (vb k) (0, 0) _ HKW.out.kA Tryd.underlying23 rfl HNK.out ?_)
            | (refine wpList_load_row rfl 25 (.tmp 5) rfl (w.heap.size + 1) rfl 25 (vb nn) (0, 0) _ HKW.out.nA Tryd.underlying25 rfl HNN.out ?_)
            | (go_at_call 10; (refine (HS1.out wr HKW.out.bel).mono ?_); rintro e W2 ⟨A1, c1, rfl, ho, hb⟩; rw [HN1.out] at ho ⊢; have HO2 := Lib.hid ho; have HK2 := Lib.hid (HKW.out.next (hb.mono HKW.out.sz)); have HM2 := Lib.hid (RdP.upsE HMR.out hb hb.size); clear ho hb)
            | (refine wpList_store_rowTo rfl 32 (.tmp 11) (.tmp 46) rfl rfl W2.heap.size (bxV t1 ep1 nn1 A1 n1 c1) rfl rfl 32 zBx (by exact Blk.new W2 _ _) (HBI.out ..) (HBQ.out ..) (bx_all _ _ _ _ _ _) ?_))
          have hnr := new_rowP W2 32 zBx (bxV t1 ep1 nn1 A1 n1 c1)
          have HX3 := Lib.hid hnr.1
          have HK3 := Lib.hid (HK2.out.next (hnr.2.mono HK2.out.sz))
          have HM3 := Lib.hid (RdP.upsE HM2.out hnr.2 hnr.2.size)
          have HO3 := Lib.hid (OwnB.next (l := b1) (show OwnB W2 _ _ b1 from HO2.out) hnr.2)
          generalize (W2.alloc (Obj.cells zBx 32)).setRow W2.heap.size (bxV t1 ep1 nn1 A1 n1 c1) = W3 at *
          generalize W2.heap.size = gb at *
          clear hnr HO2 HK2 HM2
          go_upto_region 10 with (first
            | (refine wpList_load_row rfl 23 (.tmp 4) rfl w.heap.size rfl 23 (vb k) (0, 0) _ HK3.out.kA Tryd.underlying23 rfl HNK.out ?_)
            | (refine wpList_load_row rfl 25 (.tmp 5) rfl (w.heap.size + 1) rfl 25 (vb nn) (0, 0) _ HK3.out.nA Tryd.underlying25 rfl HNN.out ?_)
            | (go_at_call 10; (refine (HS2.out W3 HK3.out.bel HM3.out).mono ?_); rintro e W4 ⟨A4, c4, rfl, ho, hb⟩; rw [HBL.out] at ho ⊢; have HO4 := Lib.hid ho; have HK4 := Lib.hid (HK3.out.next (hb.mono HK3.out.sz)); have HX4 := Lib.hid (HX3.out.below hb HX3.out.lt); have HO1 := Lib.hid (OwnB.next (l := b1) HO3.out hb); clear ho hb)
            | (refine wpList_store_rowTo rfl 32 (.tmp 13) (.tmp 53) rfl rfl W4.heap.size (bxV t1 ep1 nn1 A4 n1 c4) rfl rfl 32 zBx (by exact Blk.new W4 _ _) (HBI.out ..) (HBQ.out ..) (bx_all _ _ _ _ _ _) ?_))
          have hnr := new_rowP W4 32 zBx (bxV t1 ep1 nn1 A4 n1 c4)
          have HY5 := Lib.hid hnr.1
          have HX5 := Lib.hid (HX4.out.below hnr.2 HX4.out.lt)
          have HK5 := Lib.hid (HK4.out.next (hnr.2.mono HK4.out.sz))
          have HA5 := Lib.hid (rd_ofB HN1.out (OwnB.next (l := b1) HO1.out hnr.2))
          have HD5 := Lib.hid (rd_ofB HBL.out (OwnB.next (l := b2) HO4.out hnr.2))
          generalize (W4.alloc (Obj.cells zBx 32)).setRow W4.heap.size (bxV t1 ep1 nn1 A4 n1 c4) = W5 at *
          generalize W4.heap.size = gc at *
          clear hnr HO4 HO1 HO3 HK4 HX4 HM3 HK3 HX3 HS1 HS2 HMR HKW
          refine wp_region_loud W5 [60, 63] (fun _ u W => ∃ out : List Nat, out.length = N ∧ OwnB W W5.heap.size u out) (by kernel_rfl) (by kernel_rfl) (by kernel_rfl) (by kernel_rfl) (fun k u w1 w2 h hb => by obtain ⟨out, h1, h2⟩ := h; exact ⟨out, h1, OwnB.next h2 hb⟩) (Below.refl _ _).drew ?_
          repeat (first
            | (refine wpLoud_loadB rfl rfl 32 (.tmp 11) rfl gb 0 rfl (bxV t1 ep1 nn1 A1 n1 c1) _ (fun z => rangeAt_blk (HX5.out.below z.bel HX5.out.lt)) Tryd.underlying32 rfl (by rw [Array.length_toList]; exact HBI.out ..) _ (by simp only [Act.put, List.setIfInBounds_toArray, List.set_cons_succ, List.set_cons_zero]; rfl) ?_)
            | (refine wpLoud_loadB rfl rfl 32 (.tmp 13) rfl gc 0 rfl (bxV t1 ep1 nn1 A4 n1 c4) _ (fun z => rangeAt_blk (HY5.out.below z.bel HY5.out.lt)) Tryd.underlying32 rfl (by rw [Array.length_toList]; exact HBI.out ..) _ (by simp only [Act.put, List.setIfInBounds_toArray, List.set_cons_succ, List.set_cons_zero]; rfl) ?_)
            | (refine wpLoud_call 60 rfl [] tok 23 (fun g => #[.slice none 0 0, .agg (bxV t1 ep1 nn1 A1 n1 c1)]) rfl (fun _ _ h => by cases h) rfl (fun g w => by kernel_rfl) (fun g y hg => by
                refine (HPU.out y.wd A1 c1 b1 HN1.out (Rd.ups (Rd.below HA5.out y.bel) y.bel.size)).mono ?_
                rintro e w' ⟨u, rfl, out, ho1, ho, hb⟩
                exact ⟨u, rfl, hb, ⟨out, ho1, own_base_le ho y.bel.size⟩⟩) _ (by simp only [Act.put, List.setIfInBounds_toArray, List.set_cons_succ, List.set_cons_zero]; rfl) ?_)
            | (refine wpLoud_call 63 rfl [] tok 23 (fun g => #[.slice none 0 0, .agg (bxV t1 ep1 nn1 A4 n1 c4)]) rfl (fun _ _ h => by cases h) rfl (fun g w => by kernel_rfl) (fun g y hg => by
                refine (HPU.out y.wd A4 c4 b2 HBL.out (Rd.ups (Rd.below HD5.out y.bel) y.bel.size)).mono ?_
                rintro e w' ⟨u, rfl, out, ho1, ho, hb⟩
                exact ⟨u, rfl, hb, ⟨out, ho1, own_base_le ho y.bel.size⟩⟩) _ (by simp only [Act.put, List.setIfInBounds_toArray, List.set_cons_succ, List.set_cons_zero]; rfl) ?_)
            | (refine wpLoud_valN 61 rfl rfl [60] (.int .i64 (N : Nat)) rfl (fun _ _ h => by cases h) rfl (fun g x h => by
                obtain ⟨out, h1, h2⟩ : ∃ out : List Nat, out.length = N ∧ OwnB x.wd W5.heap.size (g 60) out := h 60 (by simp)
                obtain ⟨A7, c7, e7, _, _, _⟩ := h2.rd
                rw [h1] at e7
                exact run_lenG (.tmp 60) 30 Tryd.underlying30 rfl e7 _) _ (by simp only [Act.put, List.setIfInBounds_toArray, List.set_cons_succ, List.set_cons_zero]; rfl) ?_)
            | (refine wpLoud_valN 64 rfl rfl [63] (.int .i64 (N : Nat)) rfl (fun _ _ h => by cases h) rfl (fun g x h => by
                obtain ⟨out, h1, h2⟩ : ∃ out : List Nat, out.length = N ∧ OwnB x.wd W5.heap.size (g 63) out := h 63 (by simp)
                obtain ⟨A7, c7, e7, _, _, _⟩ := h2.rd
                rw [h1] at e7
                exact run_lenG (.tmp 63) 30 Tryd.underlying30 rfl e7 _) _ (by simp only [Act.put, List.setIfInBounds_toArray, List.set_cons_succ, List.set_cons_zero]; rfl) ?_)
            | (refine wpLoud_call 68 rfl [] (.bool true) 9 (fun g => #[]) rfl (fun _ _ h => by cases h) rfl (fun g w => by kernel_rfl) (fun g y hg => by
                refine (HAW.out y.wd (HK5.out.bel.trans (y.bel.mono HK5.out.bel.size))).mono ?_
                rintro e w' ⟨rfl, hb⟩
                exact ⟨_, rfl, hb, rfl⟩) _ (by simp only [Act.put, List.setIfInBounds_toArray, List.set_cons_succ, List.set_cons_zero]; rfl) ?_)
            | (refine wpLoud_plain rfl rfl rfl ?_; intro K hK; go_big_quiet_op; go_big_quiet_on))
          refine wpLoud_end [] (by rfl) ?_
          intro gg z hg
          have HB9 := Lib.hid (HK5.out.bel.trans (z.bel.mono HK5.out.bel.size))
          generalize z.wd = Y at *
          simp only [fill, Act.put, List.setIfInBounds_toArray, List.set_cons_succ, List.set_cons_zero]
          generalize gg 60 = x60 at *
          generalize gg 63 = x63 at *
          go_wp2_with fail
          go_ret
          exact ⟨rfl, HB9.out⟩
end Go.Proofs.YtaikejlcpnelpaaDoor
namespace Go.Proofs.YtaikejlcpnelpaaDoor
open Go Go.ChangeShapes Go.WideShapes Go.ChangeAt Go.RowKit
set_option maxRecDepth 100000 in
theorem boxEven_lifted (os : Os) (started : os.Started) (H : Type) (enc : TypeId × Value → H) :
    ReturnsInHanded {} Tryd.checked os 5 .any (fun w args => (Rows.boxEvenSpec.pre enc Tryd.prog Tryd.f5 [] false w args ∧ laidMetH Tryd.prog laidQ w) ∧ sizedMet enc Tryd.prog Tryd.f5 (OpenSpec.ofChange Rows.boxEvenSpec) false w args) (Rows.boxEvenSpec.post enc Tryd.prog Tryd.f5 false true false false) := by
  refine liftQ started _ rfl (by kernel_rfl) Tryd.func5 ⟨rfl, fun H ds h => ?_⟩ rfl (of_decide_eq_true (by kernel_rfl))
    (ChangeSpec.witness_shaped (enc := enc) (C := Tryd.checked) (os := os) (X := fun w _ => laidMetH Tryd.prog laidQ w) false (World.doorLaid Tryd.prog 400 os) #[.agg (Array.replicate 32 (.int .u8 0)), .agg (Array.replicate 12 (.int .u8 0)), .slice none 0 0, .slice none 0 0] 8 rfl (World.shaped_of_RefB (by kernel_rfl) (by kernel_rfl)) (by kernel_rfl) (by kernel_rfl) (by kernel_rfl) (door_met os _)) ?_
  · match ds, h with
    | [_, _, _, _], _ => rfl
  · intro W base args ds ps hq hval hA hlt
    rw [Tryd.params5] at hA hval
    obtain ⟨v0, vs0, d0, ds0, p0, q0, hargs, rfl, rfl, h0, r0⟩ := trodAll_cons hA
    obtain ⟨v1, vs1, d1, ds1, p1, q1, rfl, rfl, rfl, h1, r1⟩ := trodAll_cons r0
    obtain ⟨v2, vs2, d2, ds2, p2, q2, rfl, rfl, rfl, h2, r2⟩ := trodAll_cons r1
    obtain ⟨v3, vs3, d3, ds3, p3, q3, rfl, rfl, rfl, h3, r3⟩ := trodAll_cons r2
    obtain ⟨rfl, rfl, rfl⟩ := trodAll_nil r3
    obtain rfl : args = #[v0, v1, v2, v3] := by cases args; simp_all
    obtain ⟨k0, rfl, kl0, ks0⟩ := open_key (hval 0 23 v0 rfl rfl) h0
    obtain ⟨k1, rfl, kl1, ks1⟩ := open_nonce (hval 1 25 v1 rfl rfl) h1
    obtain ⟨A2, l2, cap2, rfl, hc2, hm2, hl2, hr2⟩ := open_pieces (hval 2 27 v2 rfl rfl) h2
    obtain ⟨A3, l3, cap3, rfl, hl3, hr3, hm3⟩ := open_i64s (hval 3 51 v3 rfl rfl) h3
    exact boxEven_c k0 k1 A2 A3 cap2 cap3 l2 l3 W kl0 ks0 kl1 ks1 hr2 hr3 hc2 hl2 hm2 hl3 hq
theorem boxEven_row : Rows.BoxEvenSaid :=
  OpenClaim.holds_of_wide 5 Tryd.f5 rfl rfl rfl rfl rfl rfl rfl ⟨rfl, rfl, rfl, rfl, rfl⟩ rfl rfl rfl rfl rfl (by kernel_rfl) Tryd.func5 (by kernel_rfl)
    (of_decide_eq_true (by kernel_rfl)) (by unfold Func.isWrapper; rw [if_neg (by decide +kernel)]; exact ⟨rfl, rfl⟩)
    (fun os started H enc _ => boxEven_lifted os started H enc)
theorem boxEven_holds : Rows.BoxEvenCardSaid :=
  Claim7.holds_tied_plain_at .later [] [.data] true (true, "d8d9edc23ed2f81f3b892f24cc9191527c221c12c804fcbb8e9d7c52408ff666") false
    boxEven_row (fun _ h => by cases h) (by kernel_rfl) (fun _ h => by cases h) boxEven_row_tie rfl ⟨rfl, rfl⟩ (by kernel_rfl) rfl
    (fun f fn hf hfn => by
      obtain rfl : f = 5 := Option.some.inj ((show Tryd.prog.funcNamed "quaestor/quaestorlaw16.BoxEven" = some 5 by kernel_rfl).symm.trans hf) |>.symm
      obtain rfl : fn = Tryd.f5 := (Option.some.inj (Tryd.func5.symm.trans hfn)).symm
      exact ⟨by kernel_rfl, fun j t ht => by
        rw [Tryd.params5] at ht
        have hm : t ∈ [23, 25, 27, 51] := by simpa using Array.mem_of_getElem? ht
        have hall : ([23, 25, 27, 51].all fun u => !Tryd.prog.wantsStandIn u) = true := by kernel_rfl
        exact (show Tryd.prog.wantsStandIn t = false by simpa using List.all_eq_true.1 hall t hm)⟩)
    (by kernel_rfl)
#print axioms boxEven_holds
end Go.Proofs.YtaikejlcpnelpaaDoor
