/- Contracts: a number's bytes; a sum of bytes. -/
import Derived.Test.YtfblpkjablgafaaPw6
namespace Go.Proofs.Ytfblpkjablgafaa
open Go.RowKit
set_option linter.unusedVariables false
set_option linter.unusedSimpArgs false
theorem form_at : ∀ (w n j : Nat), j < w → (form n w).getD j 0 = n / 256 ^ j % 256
  | w + 1, n, 0, _ => by simp [form]
  | w + 1, n, j + 1, h => by
    rw [form, List.getD_cons_succ, form_at w _ j (by omega), Nat.div_div_eq_div_mul, Nat.pow_succ']
theorem form_add : ∀ (a b n : Nat), form n (a + b) = form n a ++ form (n / 256 ^ a) b
  | 0, b, n => by simp [form]
  | a + 1, b, n => by
    rw [show a + 1 + b = (a + b) + 1 by omega, form, form_add a b, form, List.cons_append, Nat.div_div_eq_div_mul, Nat.pow_succ']
theorem form_mod : ∀ (w n : Nat), form (n % 256 ^ w) w = form n w
  | 0, n => rfl
  | w + 1, n => by
    rw [form, form, Nat.pow_succ', Nat.mod_mul_right_mod, ← form_mod w (n / 256), Nat.mod_mul_right_div_self]
theorem list_ext {l m : List Nat} (h : l.length = m.length) (he : ∀ j, j < l.length → l.getD j 0 = m.getD j 0) : l = m := by
  refine List.ext_getElem h fun j h1 h2 => ?_
  have := he j h1
  rw [List.getD_eq_getElem?_getD, List.getElem?_eq_getElem h1, List.getD_eq_getElem?_getD, List.getElem?_eq_getElem h2] at this
  exact this
theorem rep_at (n j : Nat) : (List.replicate n 0).getD j 0 = 0 := by
  rw [List.getD_eq_getElem?_getD, List.getElem?_replicate]; split <;> rfl
theorem getD_app_l (l m : List Nat) (j : Nat) (h : j < l.length) : (l ++ m).getD j 0 = l.getD j 0 := by
  rw [List.getD_eq_getElem?_getD, List.getElem?_append_left h, List.getD_eq_getElem?_getD]
theorem getD_app_r (l m : List Nat) (j : Nat) (h : l.length ≤ j) : (l ++ m).getD j 0 = m.getD (j - l.length) 0 := by
  rw [List.getD_eq_getElem?_getD, List.getElem?_append_right h, List.getD_eq_getElem?_getD]
def zT : Array Value := vb (List.replicate 16 0)
theorem zero_tag (w : World) : (zeroValue 29).run Try.prog w = .ok (.agg zT) w := by kernel_rfl
theorem tagSz {L : List Nat} (h : L.length = 16) : (Try.prog.info? 29).map (·.size) = some (vb L).size := by rw [vb_size, h]; kernel_rfl
theorem tagLn {L : List Nat} (h : L.length = 16) : (Try.prog.info? 29).map (·.size) = some (byt L).length := by rw [byt_len, h]; kernel_rfl
theorem vb_set_ (l : List Nat) (i n : Nat) : (vb l).setIfInBounds i (.int .u8 (n : Int)) = vb (l.set i n) := vb_set l i n
/-- three blocks: of the call's own -/
structure TgSt (w wr : World) (gr go : Nat) (O : List Nat) : Prop where
  len : O.length = 16
  at_ : Blk wr go 29 (vb O)
  out : Blk wr gr 29 zT
  bel : Below w.heap.size w wr
  gg : w.heap.size ≤ go
  ne : gr ≠ go
theorem TgSt.set {w wr : World} {gr go : Nat} {O : List Nat} (h : TgSt w wr gr go O) (k v : Nat) : TgSt w (wr.setCell ⟨go, k, none⟩ (.int .u8 (v : Int))) gr go (O.set k v) :=
  ⟨by rw [List.length_set]; exact h.len, by rw [← vb_set]; exact h.at_.set_ _ _, h.out.far (by show gr ≠ go; exact h.ne) _, h.bel.setCell (by show w.heap.size ≤ go; exact h.gg) _, h.gg, h.ne⟩
theorem TgSt.cell {w wr : World} {gr go : Nat} {O : List Nat} (h : TgSt w wr gr go O) (k : Nat) (hk : k < 16) : wr.cell? ⟨go, k, none⟩ = some (.int .u8 (O.getD k 0 : Nat)) :=
  (h.at_.cell k).trans (vb_at _ k (by rw [h.len]; exact hk))
theorem wpList_loadT {ops : Array Oper} {rest : List Oper} {o : Oper} {a : Act} {w : World} {Q : Exit → Act → World → Prop} (hw : Region.wanted o (yielded ops a.tmps) = true) (x : Operand) (ho : o.op = .load 29 x) (g : Nat) (hx : a.eval x = .pointer (some ⟨g, 0, none⟩)) (L : List Nat)
    (hc : Blk w g 29 (vb L)) (h5 : L.length = 16) (h : wpList Try.prog ops Q rest (a.put o.dst (.agg (vb L))) w) : wpList Try.prog ops Q (o :: rest) a w :=
  wpList_loadG hw 29 x ho g 0 hx (byt L) _ (by have := rangeAt_blk hc; simpa [vb] using this) Try.underlying29 rfl (tagLn h5) h
theorem u8wrap (n : Nat) : IntKind.u8.wrap (n : Int) = ((n % 256 : Nat) : Int) := by simp [IntKind.wrap, IntKind.signed, IntKind.bits]
theorem shr_byte (n k : Nat) : IntKind.u8.wrap ((n : Int) / 2 ^ (8 * k)) = ((n / 256 ^ k % 256 : Nat) : Int) := by
  rw [show ((n : Int) / 2 ^ (8 * k)) = ((n / 2 ^ (8 * k) : Nat) : Int) by simp, u8wrap, show (2 : Nat) ^ (8 * k) = 256 ^ k by rw [Nat.pow_mul]]
/-- a number's low and high words -/
def loW (n : List Nat) : Nat := n.getD 0 0 + n.getD 1 0 * 67108864 + n.getD 2 0 % 4096 * 4503599627370496
def hiW (n : List Nat) : Nat := n.getD 2 0 / 4096 + n.getD 3 0 * 16384 + n.getD 4 0 % 16777216 * 1099511627776
theorem words_form (n : List Nat) (h : lbel n 67108864 67108864) : form (loW n) 8 ++ form (hiW n) 8 = form (V5 n) 16 := by
  obtain ⟨h0, h1, h2, h3, h4⟩ := h
  rw [show (16 : Nat) = 8 + 8 from rfl, form_add 8 8, ← form_mod 8 (V5 n), ← form_mod 8 (V5 n / 256 ^ 8)]
  have e1 : V5 n % 256 ^ 8 = loW n := by
    rw [show (256 : Nat) ^ 8 = 18446744073709551616 from rfl]; simp only [V5, loW]; omega
  have e2 : V5 n / 256 ^ 8 % 256 ^ 8 = hiW n := by
    rw [show (256 : Nat) ^ 8 = 18446744073709551616 from rfl]; simp only [V5, hiW]; omega
  rw [e1, e2]
theorem or26 (a b : Nat) (ha : a < 67108864) (hb : b < 67108864) : Go.bits BinOp.or IntKind.u64 (a : Int) ((b : Int) * 67108864) = ((a + b * 67108864 : Nat) : Int) := by
  rw [show (b : Int) * 67108864 = ((b * 2 ^ 26 : Nat) : Int) by omega, or_n a b 26 (by omega) (by decide) (by omega)]
theorem or52 (a b : Nat) (ha : a < 4503599627370496) (hb : b < 4096) : Go.bits BinOp.or IntKind.u64 (a : Int) ((b * 4503599627370496 : Nat) : Int) = ((a + b * 4503599627370496 : Nat) : Int) := by
  rw [show b * 4503599627370496 = b * 2 ^ 52 by omega, or_n a b 52 (by omega) (by decide) (by omega)]
theorem or14 (a b : Nat) (ha : a < 16384) (hb : b < 67108864) : Go.bits BinOp.or IntKind.u64 (a : Int) ((b : Int) * 16384) = ((a + b * 16384 : Nat) : Int) := by
  rw [show (b : Int) * 16384 = ((b * 2 ^ 14 : Nat) : Int) by omega, or_n a b 14 (by omega) (by decide) (by omega)]
theorem or40 (a b : Nat) (ha : a < 1099511627776) (hb : b < 16777216) : Go.bits BinOp.or IntKind.u64 (a : Int) ((b * 1099511627776 : Nat) : Int) = ((a + b * 1099511627776 : Nat) : Int) := by
  rw [show b * 1099511627776 = b * 2 ^ 40 by omega, or_n a b 40 (by omega) (by decide) (by omega)]
set_option maxRecDepth 100000 in
set_option maxHeartbeats 8000000 in
theorem bytes_c (n : List Nat) (w : World) (hn : n.length = 5) (hb : lbel n 67108864 67108864) :
    Calls Try.prog 29 #[.agg (vq n)] w fun e w' => e = .returned (.agg (vb (form (V5 n) 16))) ∧ Below w.heap.size w w' := by
  have zf := zero_tag
  have zs1 : zT.size = 16 := by rfl
  have zs2 : ¬ zT = #[] := by intro h; have := congrArg Array.size h; rw [zs1] at this; cases this
  have nsz : (vq n).size = 5 := by rw [vq_size, hn]
  have HWF := Lib.hid (words_form n hb)
  obtain ⟨h0, h1, h2, h3, h4⟩ := hb
  obtain ⟨lo, hlo⟩ : ∃ lo, lo = loW n := ⟨_, rfl⟩
  obtain ⟨hi, hhi⟩ : ∃ hi, hi = hiW n := ⟨_, rfl⟩
  rw [← hlo, ← hhi] at HWF
  obtain ⟨Z, hZ⟩ : ∃ Z, Z = (w.alloc (Obj.cells (vq n) 46)).alloc (Obj.cells zT 29) := ⟨_, rfl⟩
  have A0 := show Blk Z w.heap.size 46 (vq n) by rw [hZ]; exact (Blk.new w _ _).alloc _
  have E0 := Lib.hid (show Blk Z (w.heap.size + 1) 29 zT by
    have h1 := Blk.new (w.alloc (Obj.cells (vq n) 46)) 29 zT
    rw [show (w.alloc (Obj.cells (vq n) 46)).heap.size = w.heap.size + 1 by simp] at h1
    rw [hZ]; exact h1)
  have B0 := Lib.hid (show Below w.heap.size w Z by rw [hZ]; exact ((Below.refl _ _).alloc (Nat.le_refl _) _).alloc (by simp) _)
  have c0 := (A0.cell 0).trans (vq_at n 0 (by omega))
  have c1 := (A0.cell 1).trans (vq_at n 1 (by omega))
  have c2 := (A0.cell 2).trans (vq_at n 2 (by omega))
  have c3 := (A0.cell 3).trans (vq_at n 3 (by omega))
  have c4 := (A0.cell 4).trans (vq_at n 4 (by omega))
  clear A0
  unfold loW at hlo
  unfold hiW at hhi
  generalize n.getD 0 0 = n0 at *
  generalize n.getD 1 0 = n1 at *
  generalize n.getD 2 0 = n2 at *
  generalize n.getD 3 0 = n3 at *
  generalize n.getD 4 0 = n4 at *
  obtain ⟨l1, hl1⟩ : ∃ l1, l1 = n0 + n1 * 67108864 := ⟨_, rfl⟩
  obtain ⟨l2, hl2⟩ : ∃ l2, l2 = n2 % 4096 * 4503599627370496 := ⟨_, rfl⟩
  obtain ⟨g1, hg1⟩ : ∃ g1, g1 = n2 / 4096 + n3 * 16384 := ⟨_, rfl⟩
  obtain ⟨g2, hg2⟩ : ∃ g2, g2 = n4 % 16777216 * 1099511627776 := ⟨_, rfl⟩
  have f1 : bits BinOp.or IntKind.u64 (n0 : Int) ((n1 : Int) * 67108864) = (l1 : Int) := by rw [or26 _ _ h0 h1, hl1]
  have f2 : IntKind.u64.wrap ((n2 : Int) * 4503599627370496) = (l2 : Int) := by
    rw [show (n2 : Int) * 4503599627370496 = ((n2 * 4503599627370496 : Nat) : Int) by omega, wrap_nat, hl2]; omega
  have f3 : bits BinOp.or IntKind.u64 (l1 : Int) (l2 : Int) = (lo : Int) := by
    rw [hl2, or52 _ _ (by omega) (by omega), hlo, hl1]
  have f4 : bits BinOp.or IntKind.u64 ((n2 : Int) / 4096) ((n3 : Int) * 16384) = (g1 : Int) := by
    rw [show (4096 : Int) = ((4096 : Nat) : Int) from rfl, ediv_nat, or14 _ _ (by omega) h3, hg1]
  have f5 : IntKind.u64.wrap ((n4 : Int) * 1099511627776) = (g2 : Int) := by
    rw [show (n4 : Int) * 1099511627776 = ((n4 * 1099511627776 : Nat) : Int) by omega, wrap_nat, hg2]; omega
  have f6 : bits BinOp.or IntKind.u64 (g1 : Int) (g2 : Int) = (hi : Int) := by
    rw [hg2, or40 _ _ (by omega) (by omega), hhi, hg1]
  have hlo64 : lo < 18446744073709551616 := by omega
  have hhi64 : hi < 18446744073709551616 := by omega
  clear hl1 hl2 hg1 hg2 hlo hhi
  go_enter Try.func29, Try.ntmps29
  go_upto_region 1 with fail
  rw [← hZ]
  clear hZ
  go_upto_region 4 with fail
  have hzn := (Blk.new Z 29 zT)
  have ST0 := Lib.hid (show TgSt w (Z.alloc (Obj.cells zT 29)) (w.heap.size + 1) Z.heap.size (List.replicate 16 0) from
    ⟨rfl, hzn, E0.out.alloc _, B0.out.alloc B0.out.size _, B0.out.size, Nat.ne_of_lt E0.out.lt⟩)
  clear hzn c0 c1 c2 c3 c4 E0 B0 f1 f2 f3 f4 f5 f6
  generalize Z.alloc (Obj.cells zT 29) = W0 at *
  generalize Z.heap.size = go at *
  go_wp2_with fail
  go_loopw [28] (fun i wr => ∃ (k : Nat) (O : List Nat), k ≤ 8 ∧ i = .int .i64 (k : Int) ∧ TgSt w wr (w.heap.size + 1) go O ∧ (∀ j, j < 8 → O.getD j 0 = if j < k then lo / 256 ^ j % 256 else 0) ∧ ∀ j, j < 8 → O.getD (8 + j) 0 = if j < k then hi / 256 ^ j % 256 else 0) (fun i _ => 8 - (intOf i).toNat)
  case atStart => exact ⟨0, List.replicate 16 0, by omega, rfl, ST0.out, fun j hj => by
      rw [if_neg (Nat.not_lt_zero j)]; exact rep_at _ _, fun j hj => by
      rw [if_neg (Nat.not_lt_zero j)]; exact rep_at _ _⟩
  case round =>
    rename World => wr
    obtain ⟨k, O, hk, rfl, hst, hO1, hO2⟩ := hrel
    have ST := Lib.hid hst
    have H1 := Lib.hid hO1
    have H2 := Lib.hid hO2
    clear hst hO1 hO2 ST0
    by_cases hlt : k < 8
    · have p1 : (k : Int) < 8 := by omega
      obtain ⟨k8, hk8⟩ : ∃ k8, k8 = 8 + k := ⟨_, rfl⟩
      have q8 : 8 + (k : Int) = (k8 : Int) := by omega
      have q16 : (k8 : Int) < 16 := by omega
      have q17 : (k : Int) < 16 := by omega
      have d0 := ST.out.cell k (by omega)
      have e0 := ST.out.at_.free k
      have st1 := ST.out.set k (lo / 256 ^ k % 256)
      have d1 := st1.cell k8 (by omega)
      have e1 := st1.at_.free k8
      have r1 := shr_byte lo k
      have r2 := shr_byte hi k
      have HK8 := Lib.hid hk8
      obtain ⟨b1, hb1⟩ : ∃ b1, b1 = lo / 256 ^ k % 256 := ⟨_, rfl⟩
      obtain ⟨b2, hb2⟩ : ∃ b2, b2 = hi / 256 ^ k % 256 := ⟨_, rfl⟩
      rw [← hb1] at r1 d1 e1 st1
      rw [← hb2] at r2
      have HB1 := Lib.hid hb1
      have HB2 := Lib.hid hb2
      have ST1 := Lib.hid st1
      clear hk8 hb1 hb2 st1
      go_wp2_with fail
      refine ⟨⟨k + 1, (O.set k b1).set k8 b2, by omega, rfl, ST1.out.set k8 b2, fun j hj => ?_, fun j hj => ?_⟩, by simp only [intOf]; omega⟩
      · have h8 := HK8.out
        rw [getD_set _ _ _ _ (by rw [ST1.out.len]; omega), if_neg (by omega), getD_set _ _ _ _ (by rw [ST.out.len]; omega), H1.out j hj, HB1.out]
        by_cases hjk : j = k
        · subst hjk; rw [if_pos rfl, if_pos (Nat.lt_succ_self _)]
        · rw [if_neg hjk]
          by_cases h3 : j < k
          · rw [if_pos h3, if_pos (by omega)]
          · rw [if_neg h3, if_neg (by omega)]
      · have h8 := HK8.out
        rw [getD_set _ _ _ _ (by rw [ST1.out.len]; omega)]
        by_cases hjk : j = k
        · rw [if_pos (by omega), if_pos (by omega), hjk, HB2.out]
        · rw [if_neg (by omega), getD_set _ _ _ _ (by rw [ST.out.len]; omega), if_neg (by omega), H2.out j hj]
          by_cases h3 : j < k
          · rw [if_pos h3, if_pos (by omega)]
          · rw [if_neg h3, if_neg (by omega)]
    · obtain rfl : k = 8 := by omega
      have HE := Lib.hid (show O = form (V5 n) 16 by
        rw [← HWF.out]
        refine list_ext (by rw [ST.out.len, List.length_append, form_len, form_len]) fun j hj => ?_
        rw [ST.out.len] at hj
        by_cases h8 : j < 8
        · rw [H1.out j h8, if_pos h8, getD_app_l _ _ _ (by rw [form_len]; exact h8), form_at 8 lo j h8]
        · have e := H2.out (j - 8) (by omega)
          rw [show 8 + (j - 8) = j by omega] at e
          rw [e, if_pos (by omega), getD_app_r _ _ _ (by rw [form_len]; omega), form_len, form_at 8 hi _ (by omega)])
      clear H1 H2
      have HSZ := Lib.hid (tagSz ST.out.len)
      have HQ := Lib.hid (show zT.size = (vb O).size by rw [vb_size, ST.out.len]; rfl)
      go_wp2_with (first
        | (refine wpList_loadT rfl (.tmp 5) rfl go rfl O ST.out.at_ ST.out.len ?_)
        | (refine wpList_store_rowTo rfl 29 (.tmp 2) (.tmp 49) rfl rfl (w.heap.size + 1) (vb O) rfl rfl 29 zT ST.out.out HSZ.out HQ.out (vb_one _) ?_))
      first
        | rw [Exit.noGoto_ret]
        | skip
      refine bodyPost_ret (results_cell_row rfl _ _ (w.heap.size + 1) 29 (vb O) (0, 0) _ rfl (setRow_heap _ _ zT _ 29 (0, 0) ST.out.out) Try.underlying29 rfl HSZ.out) rfl ?_
      exact ⟨by rw [HE.out], below_row ST.out.bel (by omega) _⟩
end Go.Proofs.Ytfblpkjablgafaa
