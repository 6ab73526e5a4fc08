/- Contract: what is sealed is tagged. -/
import Derived.Test.YtfblpkjablgafaaDoorCc0
import Derived.Laws.Rows
import Derived.Laws.ResultCell
namespace Go.Proofs.YtfblpkjablgafaaDoor
open Go.RowKit
set_option linter.unusedVariables false
set_option linter.unusedSimpArgs false
theorem tailOf8 (n : Nat) : tailOf n 8 = form n 8 := rfl
theorem rd_nil (w : World) (B : Nat) (A : Option Addr) : Rd w B A (byt []) := fun h => absurd rfl h
theorem polT_len (k m : List Nat) : (polT k m).length = 16 := by simp [polT, form_len]
theorem run_partsR (w : World) (ps : List Part) {o : Oper} {ρ : Operand → Value} (xs : Array (Nat × Operand)) (ho : o.op = .buildSlice 75 ps.length xs)
    (hx : (xs.map fun (p : Nat × Operand) => (p.1, ρ p.2)).toList = (((ps.map pv).zipIdx 0).map fun x => (x.2, x.1))) (hlen : ps.length ≤ 1000) (hpos : 0 < ps.length) :
    (execOp ρ o).run Tryd.prog w = .ok (.value (.slice (some ⟨w.heap.size, 0, none⟩) ps.length ps.length)) (w.alloc (.cells (ps.map pv).toArray 26)) := by
  obtain ⟨i0, hi, hz0, hz1, hz2⟩ := info_parts sliceInfo
  have h1 := run_buildSlice (P := Tryd.prog) w 75 26 ps.length (xs.map fun (p : Nat × Operand) => (p.1, ρ p.2)) (ps.map pv).toArray i0 _ Tryd.underlying75 hi hz0 (by rw [hz1]; omega) (by rw [hz1]; omega) (by
    rw [hz1]
    refine (congrArg _ hx).trans ?_
    exact (Great.fill_flat (ps.map pv) _ (fun v hv => by
      obtain ⟨p, _, rfl⟩ := List.mem_map.1 hv
      rfl) (by simp)))
  unfold execOp
  simp only [ho, Sem.run_bind, h1, Result.andThen_ok]
  rfl
theorem range_take {w : World} {g : Nat} {T : TypeId} {l : List Nat} (h : Blk w g T (vb l)) (n : Nat) : w.rangeAt g 0 (byt (l.take n)) := fun j v hv => by
  rw [Nat.zero_add, h.cell j]
  have e2 : byt (l.take n) = (byt l).take n := by simp [byt, List.map_take]
  rw [e2, List.getElem?_take] at hv
  split at hv
  · rw [← hv]; simp [vb]
  · cases hv
section
variable {P : Program} {ops : Array Oper} {Z : World} {ls : List Tmp} {V : Tmp → Value → World → Prop} {Q : Act → Prop} {rest : List Oper} {o : Oper} {b : Act}
theorem wpLoud_valD (d : Tmp) (hd : o.dst = some d) (hw : Region.wanted o (yielded ops b.tmps) = true) (hq : quietB ops ls o = true) (hsel : ∀ cs t, o.op ≠ .select cs t) (v : Value) (hr : ∀ x : Ext Z, (execOp b.eval o).run P x.wd = .ok (.value v) x.wd)
    (b' : Act) (hb : b.put o.dst v = b') (h : wpLoud P ops Z ls V Q rest b') : wpLoud P ops Z ls V Q (o :: rest) b := wpLoud_val hw hq hsel v hr b' hb h
end
def Arr5 (W : World) (base : Nat) (m : List Nat) (u : Value) : Prop := ∃ ps : List Part, ps.length = 5 ∧ ArrAt W u base ps ∧ (∀ p ∈ ps, Rd W W.heap.size p.1 (byt p.2.2)) ∧ cat ps 5 = m
theorem Arr5.next {W W' : World} {base : Nat} {m : List Nat} {u : Value} (h : Arr5 W base m u) (hb : Below W.heap.size W W') : Arr5 W' base m u := by
  obtain ⟨ps, h1, h2, h3, h4⟩ := h
  exact ⟨ps, h1, h2.next hb, fun p hp => ((h3 p hp).below hb).more hb.size, h4⟩
def tagV (base : Nat) (z1 z2 m : List Nat) (k : Tmp) (u : Value) (W : World) : Prop := if k = 28 then OwnB W base u z1 else if k = 32 then OwnB W base u z2 else Arr5 W base m u
theorem tagV.next {base : Nat} {z1 z2 m : List Nat} {k : Tmp} {u : Value} {W W' : World} (h : tagV base z1 z2 m k u W) (hb : Below W.heap.size W W') : tagV base z1 z2 m k u W' := by
  unfold tagV at *
  split
  · rename_i h1; rw [if_pos h1] at h; exact OwnB.next h hb
  · rename_i h1
    rw [if_neg h1] at h
    split
    · rename_i h2; rw [if_pos h2] at h; exact OwnB.next h hb
    · rename_i h2; rw [if_neg h2] at h; exact h.next hb
set_option maxRecDepth 100000 in
set_option maxHeartbeats 8000000 in
theorem atag_c (A1 A2 : Option Addr) (c1 c2 : Nat) (k nonce beside under : List Nat) (w : World) (hk : k.length = 32) (hkl : ∀ c ∈ k, c < 256) (hc : nonce.length = 12) (hcl : ∀ c ∈ nonce, c < 256)
    (hr1 : Rd w w.heap.size A1 (byt beside)) (hr2 : Rd w w.heap.size A2 (byt under)) (hb1 : ∀ c ∈ beside, c < 256) (hb2 : ∀ c ∈ under, c < 256) (hl1 : beside.length ≤ 4200) (hl2 : under.length ≤ 4200) (hq : QuartersAt w) :
    Calls Tryd.prog 19 #[.agg (vb k), .agg (vb nonce), .slice A1 beside.length c1, .slice A2 under.length c2] w fun e w' => e = .returned (.agg (vb (tagL k nonce beside under))) ∧ Below w.heap.size w w' := by
  have zf := zero_64b
  have zs1 : (vb z64).size = 64 := by rfl
  have zs2 : ¬ vb z64 = #[] := by intro h; have := congrArg Array.size h; rw [zs1] at this; cases this
  have zt := zero_tag
  have zt1 : zT.size = 16 := by rfl
  have zt2 : ¬ zT = #[] := by intro h; have := congrArg Array.size h; rw [zt1] at this; cases this
  have HQ := Lib.hid hq
  have HR1 := Lib.hid hr1
  have HR2 := Lib.hid hr2
  have HB := Lib.hid (fun W (h : QuartersAt W) => block_c k 0 nonce W hk hkl (by decide) hc hcl h)
  have HBL := Lib.hid (blkL_len k 0 nonce)
  have HBT := Lib.hid (blkL_lt k 0 nonce)
  have HTG := Lib.hid (show tagL k nonce beside under = polT ((blkL k 0 nonce).take 32) (taggedL beside under) from rfl)
  have HTL := Lib.hid (taggedL_lt hb1 hb2)
  have HTN := Lib.hid (taggedL_len beside under)
  have HIK := Lib.hid (keySz hk)
  have HIN := Lib.hid (show (Tryd.prog.info? 25).map (·.size) = some (vb nonce).size by rw [vb_size, hc]; kernel_rfl)
  have HIB := Lib.hid (show (Tryd.prog.info? 58).map (·.size) = some (vb (blkL k 0 nonce)).size by rw [vb_size, blkL_len]; kernel_rfl)
  have HZB := Lib.hid (show (vb z64).size = (vb (blkL k 0 nonce)).size by rw [vb_size, vb_size, blkL_len]; rfl)
  have f1 : IntKind.u64.wrap (beside.length : Int) = (beside.length : Int) := by simp [IntKind.wrap, IntKind.signed, IntKind.bits]; omega
  have f2 : IntKind.u64.wrap (under.length : Int) = (under.length : Int) := by simp [IntKind.wrap, IntKind.signed, IntKind.bits]; omega
  clear hq hr1 hr2 hkl hcl hb1 hb2 hk hc
  generalize blkL k 0 nonce = bl at *
  go_enter Tryd.func19, Tryd.ntmps19
  go_upto_region 1 with (first
    | (refine Go.Great.wpList_boxTo rfl 23 (.tmp 0) rfl (some 4) rfl w.heap.size rfl (vb k) rfl ?_)
    | (refine Go.Great.wpList_boxTo rfl 25 (.tmp 1) rfl (some 5) rfl (w.heap.size + 1) (by simp) (vb nonce) rfl ?_))
  obtain ⟨Z, hZ⟩ : ∃ Z, Z = ((w.alloc (Obj.cells (vb k) 23)).alloc (Obj.cells (vb nonce) 25)).alloc (Obj.cells zT 49) := ⟨_, rfl⟩
  have BK := Lib.hid (show Blk Z w.heap.size 23 (vb k) by rw [hZ]; exact ((Blk.new w _ _).alloc _).alloc _)
  have BN := Lib.hid (show Blk Z (w.heap.size + 1) 25 (vb nonce) by rw [hZ]; exact (show Blk _ (w.heap.size + 1) _ _ from heap2 w _ _).alloc _)
  have BG := Lib.hid (show Blk Z (w.heap.size + 1 + 1) 49 zT by rw [hZ]; exact heap3 w _ _ _)
  have BZ := Lib.hid (show Below w.heap.size w Z by rw [hZ]; exact (((Below.refl _ _).alloc (Nat.le_refl _) _).alloc (by simp) _).alloc (by simp; omega) _)
  rw [← hZ]
  clear hZ
  have HQZ := Lib.hid (HQ.out.next BZ.out)
  go_upto_region 2 with (first
    | (refine wpList_load_row rfl 23 (.tmp 4) rfl w.heap.size rfl 23 (vb k) (0, 0) _ BK.out Tryd.underlying23 rfl HIK.out ?_)
    | (refine wpList_load_row rfl 25 (.tmp 5) rfl (w.heap.size + 1) rfl 25 (vb nonce) (0, 0) _ BN.out Tryd.underlying25 rfl HIN.out ?_)
    | (go_at_call 27; (refine (HB.out _ HQZ.out).mono ?_); rintro e W1 ⟨rfl, hb⟩; have HB1 := Lib.hid hb; clear hb)
    | (refine wpList_store_rowTo rfl 58 (.tmp 9) (.tmp 13) rfl rfl W1.heap.size (vb bl) rfl rfl 58 (vb z64) (by exact Blk.new W1 _ _) HIB.out HZB.out (vb_one _) ?_))
  obtain ⟨X, hX⟩ : ∃ X, X = (W1.alloc (Obj.cells (vb z64) 58)).setRow W1.heap.size (vb bl) := ⟨_, rfl⟩
  have hnr := new_row W1 58 (vb z64) (vb bl)
  rw [← hX] at hnr ⊢
  have BB := Lib.hid hnr.1
  have BZX := HB1.out.trans (hnr.2.mono HB1.out.size)
  have BX := Lib.hid (BZ.out.trans (BZX.mono BZ.out.size))
  have BG2 := Lib.hid (BG.out.below BZX BG.out.lt)
  clear hX hnr BZX HB1 BK BN BG BZ zf zs1 zs2
  generalize W1.heap.size = gB at *
  have HP1 := Lib.hid (fun W => put_c 0 none 0 [] beside.length 8 W (rd_nil W 0 none) (by omega) (by decide) (by decide) (by decide))
  have HP2 := Lib.hid (fun W A c (h : Rd W W.heap.size A (byt (form beside.length 8))) => put_c W.heap.size A c (form beside.length 8) under.length 8 W h (by omega) (by decide) (by decide) (by rw [form_len]; decide))
  have HP3 := Lib.hid (show ∀ W A c, Rd W W.heap.size A (byt (form beside.length 8)) → Calls Tryd.prog 25 #[.slice A 8 c, .int .u64 (under.length : Nat), .int .i64 8] W (Gives (form beside.length 8 ++ tailOf under.length 8) W) from fun W A c h => by have h2 := HP2.out W A c h; rw [form_len] at h2; exact h2)
  have HP1 := Lib.hid (show ∀ W, Calls Tryd.prog 25 #[.slice none 0 0, .int .u64 (beside.length : Nat), .int .i64 8] W (Gives ([] ++ tailOf beside.length 8) W) from HP1.out)
  clear HP2
  go_upto_region 3 with (first
    | (go_at_call 25; (with_reducible refine (HP1.out X).mono ?_); rintro e W2 ⟨v2, rfl, ho, hb⟩; rw [tailOf8, List.nil_append] at ho; obtain ⟨A4, c4, rfl, _, _, r4⟩ := ho.rd; rw [form_len]; have HR4 := Lib.hid r4; have HB2 := Lib.hid hb; clear ho hb r4)
    | (go_at_call 25; (with_reducible refine (HP3.out W2 A4 c4 HR4.out).mono ?_); rintro e W3 ⟨v3, rfl, ho, hb⟩; rw [tailOf8] at ho; obtain ⟨A5, c5, rfl, _, _, r5⟩ := ho.rd; rw [show (form beside.length 8 ++ form under.length 8).length = 16 by simp [form_len]]; have HR5 := Lib.hid (show Rd W3 W3.heap.size A5 (byt (sizesL beside under)) from r5); have HB3 := Lib.hid (HB2.out.trans (hb.mono HB2.out.size)); clear ho hb r5))
  have BWS := HB3.out
  have BB3 := Lib.hid (BB.out.below BWS BB.out.lt)
  have BG3 := Lib.hid (BG2.out.below BWS BG2.out.lt)
  have BW3 := Lib.hid (BX.out.trans (BWS.mono BX.out.size))
  have HS1 := Lib.hid (HR1.out.ext BW3.out)
  have HS2 := Lib.hid (HR2.out.ext BW3.out)
  have hlw : w.heap.size ≤ W3.heap.size := BW3.out.size
  have HPA := Lib.hid (fun W => pad_c beside.length W (by omega))
  have HPB := Lib.hid (fun W => pad_c under.length W (by omega))
  have HTP := Lib.hid (fun W u (h : Arr5 W W3.heap.size (taggedL beside under) u) => show Calls Tryd.prog 28 #[.agg (vb (bl.take 32)), u] W fun e w' => e = .returned (.agg (vb (polT (bl.take 32) (taggedL beside under)))) ∧ Below W.heap.size W w' from by
    obtain ⟨ps, h1, h2, h3, h4⟩ := h
    exact tag_parts (bl.take 32) (taggedL beside under) ps u W3.heap.size W (by rw [List.length_take, HBL.out]; rfl) (fun c hc => HBT.out c (List.mem_of_mem_take hc)) HTL.out (by have := HTN.out; omega) (by rw [h1]; exact h4) (by omega) h2 h3)
  have HKL := Lib.hid (keyLn (L := bl.take 32) (by rw [List.length_take, HBL.out]; rfl))
  have HTT := Lib.hid (tagSz (polT_len (bl.take 32) (taggedL beside under)))
  have HTZ := Lib.hid (show zT.size = (vb (polT (bl.take 32) (taggedL beside under))).size by rw [vb_size, polT_len]; rfl)
  have HZ1 := Lib.hid (show (zs (padN beside.length)).length = padN beside.length by simp [zs])
  have HZ2 := Lib.hid (show (zs (padN under.length)).length = padN under.length by simp [zs])
  clear HP1 HP3 HB2 HB3 BB BG2 BX HR1 HR2 HQ HQZ HB HR4 f1 f2
  refine wp_region_loudTail 14 W3 [28, 32, 34] (tagV W3.heap.size (zs (padN beside.length)) (zs (padN under.length)) (taggedL beside under)) (by kernel_rfl) (by kernel_rfl) (by kernel_rfl) (by kernel_rfl) (fun _ _ _ _ h hb => tagV.next h hb) (Below.refl _ _).drew ?_
  simp only [List.take_succ_cons, List.take_zero, List.drop_succ_cons, List.drop_zero]
  repeat (first
    | (refine wpLoud_plain (by kernel_rfl) rfl rfl ?_; intro K hK; go_big_quiet_op; go_big_quiet_on)
    | (refine wpLoud_val (by kernel_rfl) (by kernel_rfl) (fun _ _ h => by cases h) (.pointer (some ⟨gB, 0, none⟩)) (fun x => by rfl) _ (by simp only [Act.put, List.setIfInBounds_toArray, List.set_cons_succ, List.set_cons_zero]; rfl) ?_)
    | (refine wpLoud_valD 27 rfl (by kernel_rfl) (by kernel_rfl) (fun _ _ h => by cases h) (.int .i64 (beside.length : Nat)) (fun x => by kernel_rfl) _ (by simp only [Act.put, List.setIfInBounds_toArray, List.set_cons_succ, List.set_cons_zero]; rfl) ?_)
    | (refine wpLoud_valD 31 rfl (by kernel_rfl) (by kernel_rfl) (fun _ _ h => by cases h) (.int .i64 (under.length : Nat)) (fun x => by kernel_rfl) _ (by simp only [Act.put, List.setIfInBounds_toArray, List.set_cons_succ, List.set_cons_zero]; rfl) ?_)
    | (refine wpLoud_load (by kernel_rfl) (by kernel_rfl) 23 (.tmp 23) rfl gB 0 rfl (byt (bl.take 32)) _ (fun y => range_take (BB3.out.below y.bel BB3.out.lt) 32) Tryd.underlying23 rfl HKL.out _ (by simp only [Act.put, List.setIfInBounds_toArray, List.set_cons_succ, List.set_cons_zero]; rfl) ?_)
    | (refine wpLoud_call 28 rfl [] tok 29 (fun g => #[.int .i64 (beside.length : Nat)]) (by kernel_rfl) (fun _ _ h => by cases h) (by kernel_rfl) (fun g w => by kernel_rfl) (fun g y hg => by
        refine (HPA.out _).mono ?_
        rintro e w' ⟨u, rfl, ho, hb⟩
        exact ⟨u, rfl, hb, own_base_le ho y.2.size⟩) _ (by simp only [Act.put, List.setIfInBounds_toArray, List.set_cons_succ, List.set_cons_zero]; rfl) ?_)
    | (refine wpLoud_call 32 rfl [] tok 29 (fun g => #[.int .i64 (under.length : Nat)]) (by kernel_rfl) (fun _ _ h => by cases h) (by kernel_rfl) (fun g w => by kernel_rfl) (fun g y hg => by
        refine (HPB.out _).mono ?_
        rintro e w' ⟨u, rfl, ho, hb⟩
        exact ⟨u, rfl, hb, own_base_le ho y.2.size⟩) _ (by simp only [Act.put, List.setIfInBounds_toArray, List.set_cons_succ, List.set_cons_zero]; rfl) ?_))
  refine wpLoud_makeG 34 rfl rfl [28, 32] (by kernel_rfl) (fun _ _ h => by cases h) (by kernel_rfl) (fun g x hg => by
      have h1 : OwnB x.wd W3.heap.size (g 28) (zs (padN beside.length)) := hg 28 (by simp)
      have h2 : OwnB x.wd W3.heap.size (g 32) (zs (padN under.length)) := hg 32 (by simp)
      obtain ⟨A6, c6, e6, _, _, r6⟩ := h1.rd
      obtain ⟨A7, c7, e7, _, _, r7⟩ := h2.rd
      refine ⟨_, _, run_partsR x.wd [(A1, c1, beside), (A6, c6, zs (padN beside.length)), (A2, c2, under), (A7, c7, zs (padN under.length)), (A5, c5, sizesL beside under)] #[(0, .tmp 25), (1, .tmp 28), (2, .tmp 29), (3, .tmp 32), (4, .tmp 33)] rfl (by
        refine Eq.trans (b := [((0 : Nat), Value.slice A1 beside.length c1), (1, g 28), (2, Value.slice A2 under.length c2), (3, g 32), (4, Value.slice A5 16 c5)]) (by kernel_rfl) ?_
        rw [e6, e7]
        simp [pv, sizesL_len]) (by simp) (by simp), (Below.refl _ _).alloc (Nat.le_refl _) _, ?_⟩
      refine (show Arr5 _ _ _ _ from ⟨_, rfl, ⟨x.wd.heap.size, rfl, x.2.size, Blk.new _ _ _⟩, fun p hp => ?_, ?_⟩)
      · have hbw := x.bel
        have hup : Below x.wd.heap.size x.wd (x.wd.alloc (Obj.cells (List.map pv [(A1, c1, beside), (A6, c6, zs (padN beside.length)), (A2, c2, under), (A7, c7, zs (padN under.length)), (A5, c5, sizesL beside under)]).toArray 26)) := (Below.refl _ _).alloc (Nat.le_refl _) _
        simp only [List.mem_cons, List.not_mem_nil, or_false] at hp
        rcases hp with rfl | rfl | rfl | rfl | rfl
        · exact ((HS1.out.ext (hbw.mono (Nat.le_refl _))).ext hup).more (by have := x.bel.size; simp; omega)
        · exact (r6.ext hup).more (by simp)
        · exact ((HS2.out.ext (hbw.mono (Nat.le_refl _))).ext hup).more (by have := x.bel.size; simp; omega)
        · exact (r7.ext hup).more (by simp)
        · exact ((HR5.out.ext hbw).ext hup).more (by have := x.bel.size; simp; omega)
      · simp [cat, taggedL]) _ (by simp only [Act.put, List.setIfInBounds_toArray, List.set_cons_succ, List.set_cons_zero]; rfl) ?_
  refine wpLoud_call 35 rfl [34] (.agg (vb (polT (bl.take 32) (taggedL beside under)))) 28 (fun g => #[.agg (vb (bl.take 32)), g 34]) (by kernel_rfl) (fun _ _ h => by cases h) (by kernel_rfl) (fun g w => by kernel_rfl) (fun g y hg => by
      refine (HTP.out y.wd (g 34) (hg 34 (by simp))).mono ?_
      rintro e w' ⟨rfl, hb⟩
      exact ⟨_, rfl, hb, rfl⟩) _ (by simp only [Act.put, List.setIfInBounds_toArray, List.set_cons_succ, List.set_cons_zero]; rfl) ?_
  refine wpLoud_end [] (by rfl) ?_
  intro g z hg
  have HG4 := Lib.hid (BG3.out.below z.bel BG3.out.lt)
  have HB5 := Lib.hid (BW3.out.trans (z.bel.mono hlw))
  generalize z.wd = Y2 at *
  simp only [fill, Act.put, List.setIfInBounds_toArray, List.set_cons_succ, List.set_cons_zero]
  clear hg
  generalize polT (bl.take 32) (taggedL beside under) = tg at *
  go_wp2_with (refine wpList_store_rowTo rfl 49 (.tmp 8) (.tmp 35) rfl rfl (w.heap.size + 1 + 1) (vb tg) rfl rfl 49 zT HG4.out HTT.out HTZ.out (vb_one _) ?_)
  refine bodyPost_ret (results_cell_row rfl _ _ (w.heap.size + 1 + 1) 49 (vb tg) (0, 0) _ rfl (setRow_heap Y2 (w.heap.size + 1 + 1) zT _ 49 (0, 0) HG4.out) Tryd.underlying49 rfl HTT.out) rfl ?_
  exact ⟨by rw [HTG.out], HB5.out.trans (below_setRow _ _ _ (by omega))⟩
end Go.Proofs.YtfblpkjablgafaaDoor
