/- AeadNonces: the walk. -/
import Derived.Test.YtfblpkjablgafaaDoorLw2
import Derived.Test.YtfblpkjablgafaaDoorCe4
namespace Go.Proofs.YtfblpkjablgafaaDoor
open Go.RowKit
set_option linter.unusedVariables false
set_option linter.unusedSimpArgs false
theorem non_eq (l m : List Nat) (hl : l.length = 12) (hm : m.length = 12) (hs : ∀ c ∈ l, c < 256) (hs2 : ∀ c ∈ m, c < 256) (w : World) :
    (Op.equalIn 10000 25 (.agg (vb l)) (.agg (vb m))).run Tryd.prog w = .ok (l == m) w :=
  run_equalIn_barr Tryd.underlying25 Tryd.underlying5 (by kernel_rfl) (by kernel_rfl) l m hl hm hs hs2 w
theorem nonL_count (node count : Nat) (hc : count < 18446744073709551616) : number ((nonL node count).take 8) = count := by
  unfold nonL
  rw [List.take_append_of_le_length (by rw [form_len]; exact Nat.le_refl _), List.take_of_length_le (by rw [form_len]; exact Nat.le_refl _), number_form _ _ hc]
theorem nonL_node (node count : Nat) (hn : node < 65536) : number (((nonL node count).drop 8).take 2) = node := by
  unfold nonL
  rw [List.drop_append_of_le_length (by rw [form_len]; exact Nat.le_refl _), List.drop_of_length_le (by rw [form_len]; exact Nat.le_refl _), List.nil_append, List.take_append_of_le_length (by rw [form_len]; exact Nat.le_refl _), List.take_of_length_le (by rw [form_len]; exact Nat.le_refl _), number_form _ _ hn]
theorem nonL_inj {a b c d : Nat} (ha : a < 65536) (hb : b < 65536) (hc : c < 18446744073709551616) (hd : d < 18446744073709551616) (h : nonL a c = nonL b d) : a = b ∧ c = d := by
  refine ⟨?_, ?_⟩
  · rw [← nonL_node a c ha, h, nonL_node b d hb]
  · rw [← nonL_count a c hc, h, nonL_count b d hd]
def nonV (node count : Nat) : List Nat := if 4611686018427387904 < count then zNl else nonL node count
def nonE (count : Nat) : Nat := if 4611686018427387904 < count then 12 else 0
theorem nonV_len (node count : Nat) : (nonV node count).length = 12 := by
  unfold nonV; split
  · rfl
  · exact nonL_len _ _
theorem nonV_lt (node count : Nat) : ∀ c ∈ nonV node count, c < 256 := by
  unfold nonV; split
  · decide
  · exact nonL_lt _ _
theorem nonceOf_c (node count : Nat) (w : World) (hn : node < 65536) (hc : count < 18446744073709551616) :
    Calls Tryd.prog 15 #[.int .u16 node, .int .u64 count] w fun e w' => e = .returned (.tuple #[.agg (vb (nonV node count)), .int .i64 (nonE count : Nat)]) ∧ Below w.heap.size w w' := by
  unfold nonV nonE
  by_cases h : 4611686018427387904 < count
  · rw [if_pos h, if_pos h]; exact nonceHi_c node count w hc h
  · rw [if_neg h, if_neg h]; exact nonceLo_c node count w hn (by omega)
/-- two nonces -/
structure Nst (w W : World) (g1 g2 : Nat) (x y : List Nat) : Prop where
  bel : Below w.heap.size w W
  a : Blk W g1 25 (vb x)
  b : Blk W g2 25 (vb y)
theorem Nst.next {w W W' : World} {g1 g2 : Nat} {x y : List Nat} (s : Nst w W g1 g2 x y) (h : Below W.heap.size W W') : Nst w W' g1 g2 x y :=
  ⟨s.bel.trans (h.mono s.bel.size), s.a.below h s.a.lt, s.b.below h s.b.lt⟩
set_option maxRecDepth 100000 in
set_option maxHeartbeats 8000000 in
theorem aeadNonces_w (a b c d : Nat) (w : World) (ha : a < 65536) (hb : b < 65536) (hc : c < 18446744073709551616) (hd : d < 18446744073709551616) (hq : QuartersAt w) :
    Calls Tryd.prog 6 #[.int .u16 a, .int .u16 b, .int .u64 c, .int .u64 d] w fun e w' => e = .returned (.bool true) ∧ Below w.heap.size w w' := by
  have HAW := Lib.hid (fun W (h : Below w.heap.size w W) => awake06_c W (hq.next h))
  have zf := zero_nonce
  have zs1 : (vb zNl).size = 12 := by rfl
  have zs2 : ¬ vb zNl = #[] := by intro h; have := congrArg Array.size h; rw [zs1] at this; cases this
  have HN1 := Lib.hid (fun W => nonceOf_c a c W ha hc)
  have HN2 := Lib.hid (fun W => nonceOf_c b d W hb hd)
  have HS1 := Lib.hid (nonSz (nonV_len a c))
  have HS2 := Lib.hid (nonSz (nonV_len b d))
  have HL1 := Lib.hid (nonLn (nonV_len a c))
  have HL2 := Lib.hid (nonLn (nonV_len b d))
  have HZ1 := Lib.hid (show (vb zNl).size = (vb (nonV a c)).size by rw [vb_size, vb_size, nonV_len]; rfl)
  have HZ2 := Lib.hid (show (vb zNl).size = (vb (nonV b d)).size by rw [vb_size, vb_size, nonV_len]; rfl)
  have HVN := Lib.hid (nonV_len a c)
  have HVT := Lib.hid (nonV_lt a c)
  have HWN := Lib.hid (nonV_len b d)
  have HWT := Lib.hid (nonV_lt b d)
  have HV := Lib.hid (show nonV a c = if 4611686018427387904 < c then zNl else nonL a c from rfl)
  have HW := Lib.hid (show nonV b d = if 4611686018427387904 < d then zNl else nonL b d from rfl)
  have HE1 := Lib.hid (show nonE c = if 4611686018427387904 < c then 12 else 0 from rfl)
  have HE2 := Lib.hid (show nonE d = if 4611686018427387904 < d then 12 else 0 from rfl)
  have HBD := Lib.hid built_nonce
  have hee : nonE d ≤ 12 := by unfold nonE; split <;> decide
  generalize nonV a c = x at *
  generalize nonV b d = y at *
  generalize nonE c = e1 at *
  generalize nonE d = e2 at *
  clear hq
  go_enter Tryd.func6, Tryd.ntmps6
  go_upto_region 2 with (first
    | (go_at_call 15; (refine (HN1.out w).mono ?_); rintro e W1 ⟨rfl, hbw⟩; have HB1 := Lib.hid hbw; clear hbw)
    | (refine wpList_store_rowTo rfl 25 (.tmp 9) (.tmp 19) rfl rfl W1.heap.size (vb x) rfl rfl 25 (vb zNl) (by exact Blk.new W1 _ _) HS1.out HZ1.out (vb_one _) ?_))
  have hnr := new_row W1 25 (vb zNl) (vb x)
  have HA2 := Lib.hid hnr.1
  have HB2 := Lib.hid (HB1.out.trans (hnr.2.mono HB1.out.size))
  generalize (W1.alloc (Obj.cells (vb zNl) 25)).setRow W1.heap.size (vb x) = W2 at *
  generalize W1.heap.size = g1 at *
  clear hnr HB1
  go_upto_region 3 with (first
    | (go_at_call 15; (refine (HN2.out W2).mono ?_); rintro e W3 ⟨rfl, hbw⟩; have HB3 := Lib.hid (HB2.out.trans (hbw.mono HB2.out.size)); have HA3 := Lib.hid (HA2.out.below hbw HA2.out.lt); clear hbw)
    | (refine wpList_store_rowTo rfl 25 (.tmp 11) (.tmp 25) rfl rfl W3.heap.size (vb y) rfl rfl 25 (vb zNl) (by exact Blk.new W3 _ _) HS2.out HZ2.out (vb_one _) ?_))
  have hnr := new_row W3 25 (vb zNl) (vb y)
  have HS := Lib.hid (show Nst w _ g1 W3.heap.size x y from ⟨HB3.out.trans (hnr.2.mono HB3.out.size), HA3.out.below hnr.2 HA3.out.lt, hnr.1⟩)
  generalize (W3.alloc (Obj.cells (vb zNl) 25)).setRow W3.heap.size (vb y) = W4 at *
  generalize W3.heap.size = g2 at *
  clear hnr HB3 HA3 HB2 HA2 zf zs1 zs2
  by_cases h1 : 4611686018427387904 < c
  · have d1 : decide ((4611686018427387904 : Int) < (c : Int)) = true := decide_eq_true (by omega)
    have hx : x = zNl := by rw [HV.out, if_pos h1]
    have he : e1 = 12 := by rw [HE1.out, if_pos h1]
    clear HV HW HE1 HE2
    subst hx
    subst he
    have HEQ := fun w => non_eq zNl zNl rfl rfl (by decide) (by decide) w
    rw [beq_self_eq_true] at HEQ
    have HEQ2 : ∀ w, (Op.equalIn 10000 25 (.agg (vb zNl)) (.agg #[.int .u8 0, .int .u8 0, .int .u8 0, .int .u8 0, .int .u8 0, .int .u8 0, .int .u8 0, .int .u8 0, .int .u8 0, .int .u8 0, .int .u8 0, .int .u8 0])).run Tryd.prog w = .ok true w := HEQ
    clear h1
    go_wp2_with (first
      | (refine wpList_load_row rfl 25 (.tmp 9) rfl g1 rfl 25 (vb zNl) (0, 0) _ HS.out.a Tryd.underlying25 rfl HS1.out ?_)
      | (refine wpList_valG (by kernel_rfl) (.agg (vb zNl)) (run_built _ 25 [] _ HBD.out #[] rfl rfl) ?_)
      | (go_at_call 7; (refine (HAW.out W4 HS.out.bel).mono ?_); rintro e W6 ⟨rfl, hb⟩; have HB6 := Lib.hid (HS.out.bel.trans (hb.mono HS.out.bel.size)); clear hb))
    go_ret
    exact ⟨rfl, HB6.out⟩
  · have d1 : decide ((4611686018427387904 : Int) < (c : Int)) = false := decide_eq_false (by omega)
    have hx : x = nonL a c := by rw [HV.out, if_neg h1]
    have he : e1 = 0 := by rw [HE1.out, if_neg h1]
    have HCO := Lib.hid (show ∀ W, Calls Tryd.prog 16 #[.agg (vb x)] W fun e w' => e = .returned (.tuple #[.int .u16 (a : Nat), .int .u64 (c : Nat)]) ∧ Below W.heap.size W w' from fun W => by
      have h := countOf_c x W HVN.out HVT.out
      rw [hx, nonL_node a c ha, nonL_count a c hc] at h
      rw [hx]
      exact h)
    have HRN := Lib.hid (show ∀ W, Calls Tryd.prog 17 #[.int .u16 a, .int .u64 c] W fun e w' => e = .returned (.agg (vb x)) ∧ Below W.heap.size W w' from fun W => by
      rw [hx]; exact rnonce_c a c W ha hc)
    have HXY := Lib.hid (show ¬ 4611686018427387904 < d → (x == y) = (decide (a = b) && decide (c = d)) from fun h2 => by
      rw [HW.out, if_neg h2, hx, Bool.eq_iff_iff]
      simp only [beq_iff_eq, Bool.and_eq_true, decide_eq_true_eq]
      constructor
      · exact nonL_inj ha hb hc hd
      · rintro ⟨rfl, rfl⟩; rfl)
    have HHX := Lib.hid hx
    clear HV HW HE1 hx h1 ha hb hc hd
    subst he
    have HEQ := fun w => non_eq x x HVN.out HVN.out HVT.out HVT.out w
    rw [beq_self_eq_true] at HEQ
    have t1 : ((a : Int) != (a : Int)) = false := by simp
    have t2 : ((c : Int) != (c : Int)) = false := by simp
    go_upto_region 6 with (first
      | (refine wpList_load_row rfl 25 (.tmp 9) rfl g1 rfl 25 (vb x) (0, 0) _ HS.out.a Tryd.underlying25 rfl HS1.out ?_)
      | (go_at_call 16; (refine (HCO.out W4).mono ?_); rintro e W5 ⟨rfl, hb⟩; have HS5 := Lib.hid (HS.out.next hb); clear hb))
    refine wp_region_loud W5 [] (fun _ _ _ => True) (by kernel_rfl) (by kernel_rfl) (by kernel_rfl) (by kernel_rfl) (fun _ _ _ _ _ _ => True.intro) (Below.refl _ _).drew ?_
    repeat (first
      | (refine wpLoud_loadB rfl rfl 25 (.tmp 9) rfl g1 0 rfl (vb x) _ (fun z => by exact rangeAt_blk (HS5.out.a.below z.bel HS5.out.a.lt)) Tryd.underlying25 rfl HL1.out _ (by simp only [Act.put, List.setIfInBounds_toArray, List.set_cons_succ, List.set_cons_zero]; rfl) ?_)
      | (refine wpLoud_call 50 rfl [] (.agg (vb x)) 17 (fun g => #[.int .u16 a, .int .u64 c]) rfl (fun _ _ h => by cases h) rfl (fun g w => by kernel_rfl) (fun g z hg => by
          refine (HRN.out z.wd).mono ?_
          rintro e w' ⟨rfl, hb⟩
          exact ⟨_, rfl, hb, rfl⟩) _ (by simp only [Act.put, List.setIfInBounds_toArray, List.set_cons_succ, List.set_cons_zero]; rfl) ?_)
      | (refine wpLoud_plain rfl rfl rfl ?_; intro K hK; go_big_quiet_op; go_big_quiet_on))
    refine wpLoud_end [] (by rfl) ?_
    intro g z hg
    have HS6 := Lib.hid (HS5.out.next z.bel)
    generalize z.wd = W6 at *
    simp only [fill, Act.put, List.setIfInBounds_toArray, List.set_cons_succ, List.set_cons_zero]
    clear hg HS5 HS HCO HRN
    have HEY := fun w => non_eq x y HVN.out HWN.out HVT.out HWT.out w
    by_cases h2 : 4611686018427387904 < d
    · have he2 : e2 = 12 := by rw [HE2.out, if_pos h2]
      subst he2
      clear HXY h2 HE2
      go_wp2_with (go_at_call 7; (refine (HAW.out W6 HS6.out.bel).mono ?_); rintro e W7 ⟨rfl, hb⟩; have HB6 := Lib.hid (HS6.out.bel.trans (hb.mono HS6.out.bel.size)); clear hb)
      go_ret
      exact ⟨rfl, HB6.out⟩
    · have he2 : e2 = 0 := by rw [HE2.out, if_neg h2]
      have hxy := HXY.out h2
      subst he2
      clear HXY h2 HE2
      rw [hxy] at HEY
      by_cases hab : a = b
      · subst hab
        by_cases hcd : c = d
        · subst hcd
          have HEZ : ∀ w, (Op.equalIn 10000 25 (.agg (byt x).toArray) (.agg (byt y).toArray)).run Tryd.prog w = .ok true w := fun w => by have h := HEY w; simp only [decide_true, Bool.and_self] at h; exact h
          clear HEY hxy
          have t3 : ((a : Int) == (a : Int)) = true := by simp
          have t4 : ((c : Int) == (c : Int)) = true := by simp
          go_wp2_with (first
            | (refine wpList_loadG rfl 25 (.tmp 9) rfl g1 0 rfl (byt x) _ (range_all HS6.out.a) Tryd.underlying25 rfl HL1.out ?_)
            | (refine wpList_loadG rfl 25 (.tmp 11) rfl g2 0 rfl (byt y) _ (range_all HS6.out.b) Tryd.underlying25 rfl HL2.out ?_)
            | (go_at_call 7; (refine (HAW.out W6 HS6.out.bel).mono ?_); rintro e W7 ⟨rfl, hb⟩; have HB6 := Lib.hid (HS6.out.bel.trans (hb.mono HS6.out.bel.size)); clear hb))
          go_ret
          exact ⟨rfl, HB6.out⟩
        · have HEZ : ∀ w, (Op.equalIn 10000 25 (.agg (byt x).toArray) (.agg (byt y).toArray)).run Tryd.prog w = .ok false w := fun w => by have h := HEY w; simp only [decide_true, hcd, decide_false, Bool.and_false] at h; exact h
          clear HEY hxy
          have t3 : ((a : Int) == (a : Int)) = true := by simp
          have t4 : ((c : Int) == (d : Int)) = false := by simpa using fun h : (c : Int) = (d : Int) => hcd (by omega)
          clear hcd
          go_wp2_with (first
            | (refine wpList_loadG rfl 25 (.tmp 9) rfl g1 0 rfl (byt x) _ (range_all HS6.out.a) Tryd.underlying25 rfl HL1.out ?_)
            | (refine wpList_loadG rfl 25 (.tmp 11) rfl g2 0 rfl (byt y) _ (range_all HS6.out.b) Tryd.underlying25 rfl HL2.out ?_)
            | (go_at_call 7; (refine (HAW.out W6 HS6.out.bel).mono ?_); rintro e W7 ⟨rfl, hb⟩; have HB6 := Lib.hid (HS6.out.bel.trans (hb.mono HS6.out.bel.size)); clear hb))
          go_ret
          exact ⟨rfl, HB6.out⟩
      · have HEZ : ∀ w, (Op.equalIn 10000 25 (.agg (byt x).toArray) (.agg (byt y).toArray)).run Tryd.prog w = .ok false w := fun w => by have h := HEY w; simp only [hab, decide_false, Bool.false_and] at h; exact h
        clear HEY hxy
        have t3 : ((a : Int) == (b : Int)) = false := by simpa using fun h : (a : Int) = (b : Int) => hab (by omega)
        clear hab
        go_wp2_with (first
          | (refine wpList_loadG rfl 25 (.tmp 9) rfl g1 0 rfl (byt x) _ (range_all HS6.out.a) Tryd.underlying25 rfl HL1.out ?_)
          | (refine wpList_loadG rfl 25 (.tmp 11) rfl g2 0 rfl (byt y) _ (range_all HS6.out.b) Tryd.underlying25 rfl HL2.out ?_)
          | (go_at_call 7; (refine (HAW.out W6 HS6.out.bel).mono ?_); rintro e W7 ⟨rfl, hb⟩; have HB6 := Lib.hid (HS6.out.bel.trans (hb.mono HS6.out.bel.size)); clear hb))
        go_ret
        exact ⟨rfl, HB6.out⟩
end Go.Proofs.YtfblpkjablgafaaDoor
