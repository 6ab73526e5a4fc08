/- Contract: the digits of bytes. -/
import Derived.Test.YthlmlmkabjppeaaDoorHx1
namespace Go.Proofs.YthlmlmkabjppeaaDoor
open Go.RowKit
set_option linter.unusedVariables false
set_option linter.unusedSimpArgs false
theorem u8_and15 (c : Nat) (h : c < 256) : bits BinOp.and .u8 (c : Int) 15 = ((c % 16 : Nat) : Int) := by
  have h63 : (BitVec.ofInt 8 15).toNat = 2 ^ 4 - 1 := by decide
  have key : (BitVec.ofInt 8 c &&& BitVec.ofInt 8 15).toNat = ((c : Int) % ((2 ^ 8 : Nat) : Int)).toNat % 2 ^ 4 := by
    rw [BitVec.toNat_and, BitVec.toNat_ofInt, h63, Nat.and_two_pow_sub_one_eq_mod]
  show IntKind.u8.wrap ((BitVec.ofInt 8 c &&& BitVec.ofInt 8 15).toNat : Nat) = ((c % 16 : Nat) : Int)
  rw [key]
  simp [IntKind.wrap, IntKind.signed, IntKind.bits]
  omega
theorem convZ (w : World) (A : Option Addr) (c : Nat) : (convert 22 9 (.slice A 0 c)).run Tryd.prog w = .ok (.string (bstr [])) w := by
  rw [run_convert_bytes_string w 22 9 5 A 0 c Tryd.underlying22 Tryd.underlying5 Tryd.underlying9]
  cases A <;> simp [Conv.bytesToString, loadCells]
  all_goals rfl
theorem run_two (w : World) (a b : Nat) {o : Oper} {f : Act} (x y : Operand) (ho : o.op = .buildSlice 22 2 #[(0, x), (1, y)]) (hx : f.eval x = .int .u8 (a : Nat)) (hy : f.eval y = .int .u8 (b : Nat)) :
    (execOp f.eval o).run Tryd.prog w = .ok (.value (.slice (some ⟨w.heap.size, 0, none⟩) 2 2)) (w.alloc (.cells (byt [a, b]).toArray 5)) := by
  obtain ⟨i0, hi, hz0, hz1, hz2⟩ := info_parts byteInfo
  have e1 : (#[(0, x), (1, y)].map fun (p : Nat × Operand) => (p.1, f.eval p.2)).toList = (([Value.int .u8 (a : Nat), Value.int .u8 (b : Nat)].zipIdx 0).map fun x => (x.2, x.1)) := by
    simp [hx, hy]
  have h1 := run_buildSlice (P := Tryd.prog) w 22 5 2 (#[(0, x), (1, y)].map fun (p : Nat × Operand) => (p.1, f.eval p.2)) (byt [a, b]).toArray i0 _ Tryd.underlying22 hi hz0 (by rw [hz1]; decide) (by rw [hz1]; decide) (by
    rw [hz1]
    refine (congrArg _ e1).trans ?_
    exact (Great.fill_flat [Value.int .u8 (a : Nat), Value.int .u8 (b : Nat)] _ (fun v hv => by
      simp only [List.mem_cons, List.not_mem_nil, or_false] at hv
      rcases hv with rfl | rfl <;> rfl) (by simp)))
  unfold execOp
  simp only [ho, Sem.run_bind, h1, Result.andThen_ok]
  rfl
theorem conv_c (w : World) (g cap : Nat) (l : List Nat) (rest : List Value) (hb : Blk w g 5 (byt l ++ rest).toArray) (hl : ∀ c ∈ l, c < 256) :
    (convert 22 9 (.slice (some ⟨g, 0, none⟩) l.length cap)).run Tryd.prog w = .ok (.string (bstr l)) w := by
  have h := run_convert_bytes_back (P := Tryd.prog) w 22 9 5 ⟨g, 0, none⟩ cap (l.map UInt8.ofNat) Tryd.underlying22 Tryd.underlying5 Tryd.underlying9 (fun j hj => by
    have hj' : j < l.length := by simpa using hj
    have e1 : (Addr.add ⟨g, 0, none⟩ j) = ⟨g, j, none⟩ := by
      cases j <;> simp [Addr.add]
    rw [e1, cells_of_blk hb j hj']
    have hlt := hl _ (List.getElem_mem hj')
    simp [List.getD_eq_getElem?_getD, hj']
    omega)
  rw [List.length_map] at h
  exact h
theorem convB {w : World} {base : Nat} {v : Value} {l : List Nat} (h : OwnB w base v l) (hl : ∀ c ∈ l, c < 256) (hne : l ≠ []) : (convert 22 9 v).run Tryd.prog w = .ok (.string (bstr l)) w := by
  obtain ⟨g, cap, rest, rfl, _, hb, _⟩ := h.open_ hne
  exact conv_c w g cap l rest hb hl
set_option maxRecDepth 100000 in
set_option maxHeartbeats 4000000 in
theorem hex_c (B : Nat) (A : Option Addr) (ca : Nat) (l : List Nat) (w : World) (hr : Rd w B A (byt l)) (hB : B ≤ w.heap.size) (hl : ∀ c ∈ l, c < 256) (hlen : l.length ≤ 10000) :
    Calls Tryd.prog 26 #[.slice A l.length ca] w fun e w' => e = .returned (.string (bstr (hexs l))) ∧ Below w.heap.size w w' := by
  obtain ⟨i0, hi, hz0, hz1, hz2⟩ := info_parts byteInfo
  have HR := Lib.hid hr
  have HL := Lib.hid hl
  clear hr hl
  go_enter Tryd.func26, Tryd.ntmps26
  go_wp2_with fail
  go_loopw [3, 8, 19] (fun v vi vt wr => ∃ k : Nat, isTok vt = false ∧ k ≤ l.length ∧ vi = .int .i64 (k : Int) ∧ OwnB wr w.heap.size v (hexs (l.take k)) ∧ Below w.heap.size w wr) (fun _ vi _ _ => l.length - (intOf vi).toNat)
  case atStart => exact ⟨0, rfl, by omega, rfl, OwnB.nil_ _ _, Below.refl _ _⟩
  case round =>
    rename World => wr
    obtain ⟨k, ht, hk, rfl, ho, hb⟩ := hrel
    have HT := Lib.hid ht
    have HO := Lib.hid ho
    have HB := Lib.hid hb
    clear ht ho hb
    by_cases hlt : k < l.length
    · obtain ⟨ad, rfl, hab, hc⟩ := HR.out.byte hlt
      have q0 : wr.cell? (ad.add k) = some (.int .u8 (l.getD k 0 : Nat)) := (HB.out.cell (p := ad.add k) (by rw [add_block]; exact Nat.lt_of_lt_of_le hab hB)).trans hc
      have HHX := Lib.hid (show hexs (l.take (k + 1)) = hexs (l.take k) ++ [hd (l.getD k 0 / 16), hd (l.getD k 0 % 16)] by
        rw [List.take_add_one, List.getElem?_eq_getElem hlt, List.getD_eq_getElem?_getD, List.getElem?_eq_getElem hlt]
        exact hexs_snoc _ _)
      have HHL := Lib.hid (show (hexs (l.take k)).length = 2 * k by rw [hexs_len, List.length_take]; omega)
      have hc256 := getD_lt HL.out k
      obtain ⟨A1, k1, rfl, _, _, _⟩ := HO.out.rd
      generalize l.getD k 0 = c at *
      clear hc
      go_wp2_with fail
      have hx16 : c / 16 < 16 := by omega
      have hy16 : c % 16 < 16 := by omega
      have d1 := fun w => run_digit (c / 16) .u8 w hx16
      have d2 := fun w => run_digit (c % 16) .u8 w hy16
      have a1 := u8_and15 c hc256
      have a0 : (c : Int) / 16 = ((c / 16 : Nat) : Int) := by omega
      generalize hd (c / 16) = x at *
      generalize hd (c % 16) = y at *
      generalize c / 16 = n at *
      generalize c % 16 = m at *
      refine wp_region_loudTail 8 wr [19] (fun _ u w' => OwnB w' wr.heap.size u [x, y]) (by kernel_rfl) (by kernel_rfl) (by kernel_rfl) (by have h := HT.out; exact congrArg (fun b => !b && true) h) (fun _ _ _ _ h hb => OwnB.next h hb) (Below.refl _ _).drew ?_
      simp only [List.take_succ_cons, List.take_zero, List.drop_succ_cons, List.drop_zero]
      repeat (first
        | (refine wpLoud_plain rfl rfl rfl ?_; intro K hK; go_big_quiet_op; go_big_quiet_on)
        | (refine wpLoud_make rfl (fun _ _ h => by cases h) rfl 19 rfl rfl (fun y' => ⟨_, _, run_two y'.wd x y (.tmp 15) (.tmp 18) rfl rfl rfl, (Below.refl _ _).alloc (Nat.le_refl _) _, OwnB.new y'.wd _ [x, y] y'.2.size (by simp [maxLen])⟩) _ (by simp only [Act.put, List.setIfInBounds_toArray, List.set_cons_succ, List.set_cons_zero]; rfl) ?_))
      refine wpLoud_end [19] (by rfl) ?_
      intro g z hg
      have h19 : OwnB z.wd wr.heap.size (g 19) [x, y] := hg 19 (by simp)
      obtain ⟨A9, k9, e9, _, _, r9⟩ := h19.rd
      have HR9 := Lib.hid r9
      have HOZ := Lib.hid (HO.out.next z.bel)
      have HBZ := Lib.hid (HB.out.trans (z.bel.mono HB.out.size))
      generalize z.wd = Y2 at *
      simp only [fill, Act.put, List.setIfInBounds_toArray, List.set_cons_succ, List.set_cons_zero]
      rw [e9]
      clear hg h19 r9 e9 HO
      go_wp2_with (at_builtin; refine wpList_app _ rfl (.tmp 12) (.tmp 19) _ rfl w.heap.size 5 i0 (.int .u8 0) 1 1 Tryd.underlying22 hi hz0 hz1 hz2 rfl (by decide) _ _ _ rfl HOZ.out _ A9 2 k9 (byt [x, y]) rfl rfl HR9.out (byt_one _) (by have := HHL.out; omega) (by have := HHL.out; omega) (by have := HBZ.out.size; omega) ?_; intro v9 w9 hap; have HO9 := Lib.hid (show OwnB w9 w.heap.size v9 (hexs (l.take (k + 1))) from by rw [HHX.out]; exact OwnB.app hap); have HB9 := Lib.hid (show Below w.heap.size w w9 from HBZ.out.trans (hap.below HOZ.out (by have := HBZ.out.size; omega))); clear hap)
      refine ⟨⟨k + 1, by rfl, by omega, by congr 1, HO9.out, HB9.out⟩, ?_⟩
      simp only [intOf]; omega
    · obtain rfl : k = l.length := by omega
      have ho := HO.out
      rw [List.take_length] at ho
      by_cases hne : l = []
      · subst hne
        obtain ⟨A2, c2, rfl, _, _, _⟩ := ho.rd
        have hcv := convZ wr A2 c2
        have e0 : (hexs ([] : List Nat)).length = 0 := rfl
        rw [e0]
        clear HO ho
        go_wp2_with fail
        go_ret
        exact ⟨rfl, HB.out⟩
      · have hcv := convB ho (hexs_lt HL.out) (by intro h0; have := congrArg List.length h0; rw [hexs_len] at this; exact hne (List.eq_nil_of_length_eq_zero (by simp only [List.length_nil] at this; omega)))
        clear ho HO
        go_wp2_with fail
        go_ret
        exact ⟨rfl, HB.out⟩
theorem run_cut_digit (n : Nat) (w : World) (h : n < 16) : (Instr.slice 9 (.string (ByteArray.mk #[48, 49, 50, 51, 52, 53, 54, 55, 56, 57, 97, 98, 99, 100, 101, 102])) (some (.int .u8 (n : Int))) (some (.int .u8 ((n : Int) + 1))) none).run Tryd.prog w = .ok (.string (bstr [hd n])) w := by
  have h1 := run_slice_string (P := Tryd.prog) w 9 (ByteArray.mk #[48, 49, 50, 51, 52, 53, 54, 55, 56, 57, 97, 98, 99, 100, 101, 102]) .u8 .u8 (n : Int) ((n : Int) + 1) Tryd.underlying9 (by omega) (by omega) (by show ((n : Int) + 1) ≤ ((16 : Nat) : Int); omega)
  rw [h1, show ((n : Int) + 1).toNat = n + 1 by omega, Int.toNat_natCast, digit_cut n h]
set_option maxRecDepth 100000 in
set_option maxHeartbeats 4000000 in
theorem rhex_c (B : Nat) (A : Option Addr) (ca : Nat) (l : List Nat) (w : World) (hr : Rd w B A (byt l)) (hl : ∀ c ∈ l, c < 256) (hlen : l.length ≤ 10000) :
    Calls Tryd.prog 29 #[.slice A l.length ca] w fun e w' => e = .returned (.string (bstr (hexs l))) ∧ ∃ n, w' = w.drewN n := by
  have HR := Lib.hid hr
  have HL := Lib.hid hl
  clear hr hl
  go_enter Tryd.func29, Tryd.ntmps29
  go_wp2_with fail
  go_loopw [3, 4] (fun v vi wr => ∃ k n : Nat, k ≤ l.length ∧ vi = .int .i64 (k : Int) ∧ v = .string (bstr (hexs (l.take k))) ∧ wr = w.drewN n) (fun _ vi _ => l.length - (intOf vi).toNat)
  case atStart => exact ⟨0, 0, by omega, rfl, rfl, rfl⟩
  case round =>
    obtain ⟨k, n, hk, rfl, rfl, rfl⟩ := hrel
    by_cases hlt : k < l.length
    · obtain ⟨ad, rfl, hab, q0⟩ := HR.out.byte hlt
      have HHX := Lib.hid (show bstr (hexs (l.take (k + 1))) = (bstr (hexs (l.take k)) ++ bstr [hd (l.getD k 0 / 16)]) ++ bstr [hd (l.getD k 0 % 16)] by
        rw [List.take_add_one, List.getElem?_eq_getElem hlt, List.getD_eq_getElem?_getD, List.getElem?_eq_getElem hlt, bstr_app, bstr_app, List.append_assoc]
        exact congrArg bstr (hexs_snoc _ _))
      have hc256 := getD_lt HL.out k
      generalize l.getD k 0 = c at *
      have hx16 : c / 16 < 16 := by omega
      have hy16 : c % 16 < 16 := by omega
      have d1 := fun w => run_cut_digit (c / 16) w hx16
      have d2 := fun w => run_cut_digit (c % 16) w hy16
      have a0 : (c : Int).tdiv 16 = ((c / 16 : Nat) : Int) := by rw [Int.tdiv_eq_ediv_of_nonneg (by omega)]; omega
      have a1 : (c : Int).tmod 16 = ((c % 16 : Nat) : Int) := by rw [Int.tmod_eq_emod_of_nonneg (by omega)]; omega
      have a2 : IntKind.u8.wrap (((c / 16 : Nat) : Int) + 1) = ((c / 16 : Nat) : Int) + 1 := by simp [IntKind.wrap, IntKind.signed, IntKind.bits]; omega
      have a3 : IntKind.u8.wrap (((c % 16 : Nat) : Int) + 1) = ((c % 16 : Nat) : Int) + 1 := by simp [IntKind.wrap, IntKind.signed, IntKind.bits]; omega
      generalize hd (c / 16) = x at *
      generalize hd (c % 16) = y at *
      have a4 : IntKind.u8.wrap ((c / 16 : Nat) : Int) = ((c / 16 : Nat) : Int) := by simp [IntKind.wrap, IntKind.signed, IntKind.bits]; omega
      have a5 : IntKind.u8.wrap ((c % 16 : Nat) : Int) = ((c % 16 : Nat) : Int) := by simp [IntKind.wrap, IntKind.signed, IntKind.bits]; omega
      generalize c / 16 = dn at *
      generalize c % 16 = dm at *
      have hsz : (bstr (hexs (l.take k))).size ≤ 20000 := by rw [bstr_size, hexs_len, List.length_take]; omega
      have p1 := fun w => run_string_add_sum (P := Tryd.prog) (w := w) (bstr (hexs (l.take k))) (bstr [x]) (by rw [bstr_size [x]]; simp only [List.length_cons, List.length_nil]; omega)
      have p2 := fun w => run_string_add_sum (P := Tryd.prog) (w := w) (bstr (hexs (l.take k)) ++ bstr [x]) (bstr [y]) (by rw [bstr_app, bstr_size, bstr_size, List.length_append, hexs_len, List.length_take]; simp only [List.length_cons, List.length_nil]; omega)
      rw [← HHX.out] at p2
      clear hsz HHX
      obtain ⟨V, hV⟩ : ∃ V, V = bstr (hexs (l.take (k + 1))) := ⟨_, rfl⟩
      rw [← hV] at p2
      have HV := Lib.hid (show Value.string V = .string (bstr (hexs (l.take (k + 1)))) by rw [hV])
      clear hV
      generalize bstr (hexs (l.take k)) ++ bstr [x] = U at *
      generalize bstr (hexs (l.take k)) = S at *
      generalize bstr [x] = T1 at *
      generalize bstr [y] = T2 at *
      go_wp2_with fail
      refine wp_region_quiet_lit (by kernel_rfl) (by kernel_rfl) ?_
      repeat (go_big_quiet_step (fail))
      refine wpQuiet_nil ?_
      rintro _ ⟨n6, rfl⟩
      go_wp2_with fail
      refine ⟨⟨k + 1, n + n6, by omega, by congr 1, HV.out, by first | rfl | exact World.drewN_drewN _ _ _⟩, ?_⟩
      simp only [intOf]; omega
    · obtain rfl : k = l.length := by omega
      rw [List.take_length]
      go_wp2_with fail
      go_ret
      exact ⟨rfl, _, rfl⟩
end Go.Proofs.YthlmlmkabjppeaaDoor
