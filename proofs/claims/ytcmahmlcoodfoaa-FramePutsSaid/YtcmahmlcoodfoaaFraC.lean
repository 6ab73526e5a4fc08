/- Contract: Put of frames. -/
import Derived.Test.YtcmahmlcoodfoaaFra5
import Derived.Test.YtcmahmlcoodfoaaFraB
namespace Go.Proofs.Ytcmahmlcoodfoaa
open Go.RowKit Go.Great
set_option linter.unusedVariables false
theorem run_three (w : World) (v1 v2 v3 : Value) (c1 : v1.cells = #[v1]) (c2 : v2.cells = #[v2]) (c3 : v3.cells = #[v3]) {o : Oper} {a : Act} (x1 x2 x3 : Operand) (ho : o.op = .buildSlice 87 3 #[(0, x1), (1, x2), (2, x3)]) (h1 : a.eval x1 = v1) (h2 : a.eval x2 = v2) (h3 : a.eval x3 = v3) :
    (execOp a.eval o).run Try.prog w = .ok (.value (.slice (some ⟨w.heap.size, 0, none⟩) 3 3)) (w.alloc (.cells #[v1, v2, v3] 35)) := by
  have hi : ∃ i, Try.prog.info? 35 = some i ∧ i.zero = some (.slice none 0 0) ∧ i.size = 1 := ⟨_, rfl, by kernel_rfl, by kernel_rfl⟩
  obtain ⟨i, hi, hz, hs⟩ := hi
  have e1 : (#[(0, x1), (1, x2), (2, x3)].map fun (p : Nat × Operand) => (p.1, a.eval p.2)).toList = (([v1, v2, v3].zipIdx 0).map fun x => (x.2, x.1)) := by
    simp [h1, h2, h3]
  have h1 := run_buildSlice (P := Try.prog) w 87 35 3 (#[(0, x1), (1, x2), (2, x3)].map fun (p : Nat × Operand) => (p.1, a.eval p.2)) #[v1, v2, v3] i _ Try.underlying87 hi hz (by rw [hs]; decide) (by rw [hs]; decide) (by
    rw [hs]
    refine (congrArg _ e1).trans ?_
    exact (Great.fill_flat [v1, v2, v3] _ (fun v hv => by
      simp only [List.mem_cons, List.not_mem_nil, or_false] at hv
      rcases hv with rfl | rfl | rfl
      · exact c1
      · exact c2
      · exact c3) (by simp)))
  unfold execOp
  simp only [ho, Sem.run_bind, h1, Result.andThen_ok]
  rfl
theorem wpList_runTo {P : Program} {ops : Array Oper} {rest : List Oper} {o : Oper} {a : Act} {w : World} {Q : Exit → Act → World → Prop} (hg : o.guard = none) (v : Value) (w' : World) (hr : (execOp a.eval o).run P w = .ok (.value v) w')
    (h : wpList P ops Q rest (a.put o.dst v) w') : wpList P ops Q (o :: rest) a w :=
  wpList_plain hg fun K hK => by
    unfold Oper.wp
    rw [hr]
    exact hK _ _ h
def putG (x : Fr) : Tmp → List Nat := fun k => if k = 12 then hdF x else if k = 15 then hdF x ++ form x.b 8 else hdF x ++ form x.b 8 ++ form x.o 8
set_option maxRecDepth 100000 in
set_option maxHeartbeats 2000000 in
theorem fput_c (x : Fr) (v : Value) (w : World) (hx : Fin w x v) :
    Calls Try.prog 21 #[.agg (frV x v)] w (Gives (if ckF x then formF x else []) w) := by
  obtain ⟨i0, hi, hz0, hz1, hz2⟩ := info_parts byteInfo
  obtain ⟨A, c, rfl, hcap, hr⟩ := hx.bd
  have HN := Lib.hid (len_f hx.ok (.slice A x.d.length c))
  have HHD := Lib.hid (fun W => head_c x (.slice A x.d.length c) W hx.ok)
  have HCK := Lib.hid (fun W => check_c x A c W hx.ok)
  have HHL := Lib.hid (hdF_len x)
  have HX := Lib.hid hx.ok
  have HXL := Lib.hid hx.len
  have hkk : ((x.k : Int) == 72) = decide (x.k = 72) := by rw [Bool.eq_iff_iff]; simp only [beq_iff_eq, decide_eq_true_eq]; omega
  have hform : (decide (x.k = 72) = true → formF x = hdF x ++ form x.b 8 ++ form x.o 8 ++ x.p) ∧ (decide (x.k = 72) = false → formF x = hdF x ++ x.n ++ x.d) := by
    unfold formF
    constructor
    · intro h; rw [if_pos (of_decide_eq_true h)]
    · intro h; rw [if_neg (of_decide_eq_false h)]
  generalize decide (x.k = 72) = kH at *
  have HFM := Lib.hid hform
  generalize ckF x = ck at *
  have hcase : ck = false ∨ (ck = true ∧ kH = true) ∨ (ck = true ∧ kH = false) := by cases ck <;> cases kH <;> simp
  clear hform hx
  rcases hcase with rfl | ⟨rfl, rfl⟩ | ⟨rfl, rfl⟩
  all_goals
    go_enter Try.func21, Try.ntmps21
    go_upto_region 1 with (refine wpList_boxTo rfl 43 (.tmp 0) rfl (some 1) rfl w.heap.size rfl (frV x (.slice A x.d.length c)) rfl ?_)
    obtain ⟨Z, hZ⟩ : ∃ Z, Z = w.alloc (.cells (frV x (.slice A x.d.length c)) 43) := ⟨_, rfl⟩
    have hf : FrAt Z w.heap.size x (.slice A x.d.length c) := FrAt.of HX.out (by rw [hZ]; exact Blk.new _ _ _)
    have hb : Below w.heap.size w Z := by rw [hZ]; exact (Below.refl _ _).alloc (Nat.le_refl _) _
    rw [← hZ]
    clear hZ
    have HF := Lib.hid hf
    have HB := Lib.hid hb
    have HR := Lib.hid hr
    clear hf hb
    go_wp2_with (first
      | (refine wpList_loadG rfl 43 (.tmp 1) rfl w.heap.size 0 rfl (frL x (.slice A x.d.length c)) _ HF.out.al Try.underlying43 rfl HN.out ?_)
      | (go_at_call 25; (refine (HCK.out _).mono ?_); rintro e w1 ⟨rfl, hb⟩; have HF1 := Lib.hid (HF.out.next hb); have HB1 := Lib.hid (HB.out.trans (hb.mono HB.out.size)); have c0 := (HF.out.next hb).c0; clear hb))
  · go_ret
    exact ⟨_, rfl, OwnB.nil_ _ _, HB1.out⟩
  · have c4 := cell_ext HF1.out.c4
    have c5 := cell_ext HF1.out.c5
    refine wp_region_loudTail 10 w1 [12, 15, 18] (fun k u W => OwnB W w1.heap.size u (putG x k)) (by kernel_rfl) (by kernel_rfl) (by kernel_rfl) (by kernel_rfl) (fun _ _ _ _ h hb => OwnB.next h hb) (Below.refl _ _).drew ?_
    simp only [List.take_succ_cons, List.take_zero, List.drop_succ_cons, List.drop_zero]
    repeat (first
      | (refine wpLoud_loadB rfl rfl 43 (.tmp 1) rfl w.heap.size 0 rfl (frV x (.slice A x.d.length c)) _ (fun z => (HF1.out.ext z).al) Try.underlying43 rfl HN.out _ (by simp only [Act.put, List.setIfInBounds_toArray, List.set_cons_succ, List.set_cons_zero]; rfl) ?_)
      | (refine wpLoud_call 12 rfl [] tok 26 (fun g => #[.agg (frV x (.slice A x.d.length c))]) rfl (fun _ _ h => by cases h) rfl (fun g w => by kernel_rfl) (fun g z hg => by
          refine (HHD.out _).mono ?_
          rintro e w' ⟨u, rfl, ho, hb⟩
          exact ⟨u, rfl, hb, ho.base z.2.size⟩) _ (by simp only [Act.put, List.setIfInBounds_toArray, List.set_cons_succ, List.set_cons_zero]; rfl) ?_)
      | (refine wpLoud_call 15 rfl [12] tok 30 (fun g => #[g 12, .int .u64 (x.b : Nat), .int .i64 8]) rfl (fun _ _ h => by cases h) rfl (fun g w => by kernel_rfl) (fun g z hg => by
          have h6 : OwnB z.wd w1.heap.size (g 12) (hdF x) := hg 12 (by simp)
          obtain ⟨A6, c6, e6, _, _, r6⟩ := h6.rd
          show Calls _ _ #[g 12, _, _] _ _
          rw [e6]
          refine (put_k _ A6 c6 (hdF x) x.b 8 _ r6 HX.out.b (by rw [HHL.out]; decide) (by decide) (by decide)).mono ?_
          rintro e w' ⟨u, rfl, ho, hb⟩
          exact ⟨u, rfl, hb, ho.base z.2.size⟩) _ (by simp only [Act.put, List.setIfInBounds_toArray, List.set_cons_succ, List.set_cons_zero]; rfl) ?_)
      | (refine wpLoud_call 18 rfl [15] tok 30 (fun g => #[g 15, .int .u64 (x.o : Nat), .int .i64 8]) rfl (fun _ _ h => by cases h) rfl (fun g w => by kernel_rfl) (fun g z hg => by
          have h6 : OwnB z.wd w1.heap.size (g 15) (hdF x ++ form x.b 8) := hg 15 (by simp)
          obtain ⟨A6, c6, e6, _, _, r6⟩ := h6.rd
          show Calls _ _ #[g 15, _, _] _ _
          rw [e6]
          refine (put_k _ A6 c6 (hdF x ++ form x.b 8) x.o 8 _ r6 HX.out.o (by rw [List.length_append, HHL.out, form_len]; decide) (by decide) (by decide)).mono ?_
          rintro e w' ⟨u, rfl, ho, hb⟩
          exact ⟨u, rfl, hb, ho.base z.2.size⟩) _ (by simp only [Act.put, List.setIfInBounds_toArray, List.set_cons_succ, List.set_cons_zero]; rfl) ?_)
      | (refine wpLoud_plain rfl rfl rfl ?_; intro K hK; go_big_quiet_op; go_big_quiet_on))
    refine wpLoud_end [18] (by rfl) ?_
    intro g z hg
    have h18 : OwnB z.wd w1.heap.size (g 18) (hdF x ++ form x.b 8 ++ form x.o 8) := hg 18 (by simp)
    have HO := Lib.hid h18
    have HF2 := Lib.hid (HF1.out.ext z)
    have HBY := Lib.hid z.bel
    generalize z.wd = Y at *
    simp only [fill, Act.put, List.setIfInBounds_toArray, List.set_cons_succ, List.set_cons_zero]
    generalize g 18 = g18 at *
    clear hg h18 c4 c5 c0
    go_wp2_with (at_builtin; refine wpList_app _ rfl (.tmp 18) (.tmp 20) _ rfl w1.heap.size 5 i0 (.int .u8 0) 1 1 Try.underlying35 hi hz0 hz1 hz2 rfl (by decide) _ (hdF x ++ form x.b 8 ++ form x.o 8).length (byt (hdF x ++ form x.b 8 ++ form x.o 8)) rfl (by exact HO.out) (w.heap.size + 1) (some ⟨w.heap.size, 6, none⟩) 32 32 (byt x.p) rfl (by simp [byt_len, HX.out.p]) (by exact rd_range HF2.out.cp _ (Nat.lt_succ_self _)) (byt_one _) (by simp [form_len, HHL.out]) (by simp [form_len, HHL.out]) (by exact HBY.out.size) ?_; intro v5 w5 hap; have HOA := Lib.hid (show OwnB w5 w1.heap.size v5 (hdF x ++ form x.b 8 ++ form x.o 8 ++ x.p) from OwnB.app (by rw [HX.out.p]; exact hap)); have HBA := Lib.hid (show Below w1.heap.size w1 w5 from HBY.out.trans (hap.below HO.out HBY.out.size)); clear hap)
    go_ret
    exact ⟨v5, rfl, by rw [HFM.out.1 (by simp)]; exact HOA.out.base HB1.out.size, HB1.out.trans (HBA.out.mono HB1.out.size)⟩
  · have cd := cell_ext HF1.out.cd
    refine wp_region_loudTail 6 w1 [23] (fun k u W => OwnB W w1.heap.size u (hdF x)) (by kernel_rfl) (by kernel_rfl) (by kernel_rfl) (by kernel_rfl) (fun _ _ _ _ h hb => OwnB.next h hb) (Below.refl _ _).drew ?_
    simp only [List.take_succ_cons, List.take_zero, List.drop_succ_cons, List.drop_zero]
    repeat (first
      | (refine wpLoud_loadB rfl rfl 43 (.tmp 1) rfl w.heap.size 0 rfl (frV x (.slice A x.d.length c)) _ (fun z => (HF1.out.ext z).al) Try.underlying43 rfl HN.out _ (by simp only [Act.put, List.setIfInBounds_toArray, List.set_cons_succ, List.set_cons_zero]; rfl) ?_)
      | (refine wpLoud_call 23 rfl [] tok 26 (fun g => #[.agg (frV x (.slice A x.d.length c))]) rfl (fun _ _ h => by cases h) rfl (fun g w => by kernel_rfl) (fun g z hg => by
          refine (HHD.out _).mono ?_
          rintro e w' ⟨u, rfl, ho, hb⟩
          exact ⟨u, rfl, hb, ho.base z.2.size⟩) _ (by simp only [Act.put, List.setIfInBounds_toArray, List.set_cons_succ, List.set_cons_zero]; rfl) ?_)
      | (refine wpLoud_plain rfl rfl rfl ?_; intro K hK; go_big_quiet_op; go_big_quiet_on))
    refine wpLoud_end [23] (by rfl) ?_
    intro g z hg
    have h23 : OwnB z.wd w1.heap.size (g 23) (hdF x) := hg 23 (by simp)
    obtain ⟨A6, c6, e6, _, _, r6⟩ := h23.rd
    have HR6 := Lib.hid r6
    have HF2 := Lib.hid (HF1.out.ext z)
    have HBY := Lib.hid z.bel
    generalize z.wd = Y at *
    simp only [fill, Act.put, List.setIfInBounds_toArray, List.set_cons_succ, List.set_cons_zero]
    rw [e6]
    clear hg h23 r6 e6 cd c0
    have HCC := Lib.hid (fun W (hb : Blk W Y.heap.size 35 #[.slice A6 (hdF x).length c6, .slice (some ⟨w.heap.size, 38, none⟩) x.n.length 12, .slice A x.d.length c]) h1 h2 h3 => concat_c Y.heap.size A6 (some ⟨w.heap.size, 38, none⟩) A c6 12 c (hdF x) x.n x.d W hb h1 h2 h3 (by rw [HHL.out]; decide) (by rw [HX.out.n]; decide) HXL.out (by rw [HHL.out]; decide))
    rw [HX.out.n] at HCC
    refine wpList_runTo rfl _ _ (run_three Y (.slice A6 (hdF x).length c6) (.slice (some ⟨w.heap.size, 38, none⟩) 12 12) (.slice A x.d.length c) rfl rfl rfl (.tmp 23) (.tmp 25) (.tmp 27) rfl rfl rfl rfl) ?_
    obtain ⟨Y2, hY2⟩ : ∃ Y2, Y2 = Y.alloc (.cells #[.slice A6 (hdF x).length c6, .slice (some ⟨w.heap.size, 38, none⟩) 12 12, .slice A x.d.length c] 35) := ⟨_, rfl⟩
    have hbk : Blk Y2 Y.heap.size 35 #[.slice A6 (hdF x).length c6, .slice (some ⟨w.heap.size, 38, none⟩) 12 12, .slice A x.d.length c] := by rw [hY2]; exact Blk.new _ _ _
    have hby : Below Y.heap.size Y Y2 := by rw [hY2]; exact (Below.refl _ _).alloc (Nat.le_refl _) _
    rw [← hY2]
    clear hY2
    have HBK := Lib.hid hbk
    have HBY2 := Lib.hid hby
    have HWY := Lib.hid (HB1.out.trans ((HBY.out.trans (hby.mono HBY.out.size)).mono HB1.out.size))
    clear hbk hby
    have q1 := Lib.hid ((HR6.out.below HBY2.out).more HBY2.out.size)
    have q2 := Lib.hid (rd_range (HF2.out.next HBY2.out).cn Y2.heap.size (Nat.lt_of_lt_of_le HF2.out.lt HBY2.out.size))
    have q3 := Lib.hid ((HR.out.below HWY.out).more HWY.out.size)
    go_wp2_with (go_at_call 42; (refine (HCC.out _ HBK.out q1.out q2.out q3.out).mono ?_); rintro e w5 ⟨v5, rfl, ho, hb⟩; have HO5 := Lib.hid ho; have HB5 := Lib.hid hb; clear ho hb)
    go_ret
    exact ⟨v5, rfl, by rw [HFM.out.2 (by simp)]; exact HO5.out.base HWY.out.size, HWY.out.trans (HB5.out.mono HWY.out.size)⟩
end Go.Proofs.Ytcmahmlcoodfoaa
