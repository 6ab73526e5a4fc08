/- BlockPacks returns true for any key, tenant, epoch, pieces and count. Conditions: the table of the quarters is as its initialiser lays it. -/
import Derived.Test.YtlkcpbmbhbogoaaGreatDoorZ12
import Derived.Test.YtlkcpbmbhbogoaaGreatDoorTie
import Derived.Test.YtlkcpbmbhbogoaaGreatDoorCards
import Derived.SevenTiedAt
/- PieceOrder, walked. -/
namespace Go.Proofs.YtlkcpbmbhbogoaaGreatDoor
set_option linter.unusedVariables false
set_option linter.unusedSimpArgs false
set_option maxRecDepth 100000
open Go.RowKit
set_option linter.unusedVariables false
set_option linter.unusedSimpArgs false
structure Sl (W : World) (A : Option Addr) (c : Nat) (l : List Pc) : Prop where
  le : l.length ≤ c
  rd : RdP W W.heap.size A l
theorem Sl.next {W W' : World} {A : Option Addr} {c : Nat} {l : List Pc} (h : Sl W A c l) (hb : Below W.heap.size W W') : Sl W' A c l := ⟨h.le, (Rd.below (show Rd W W.heap.size A (pcs l) from h.rd) hb).more hb.size⟩
structure OkL (n : Nat) (l : List Pc) : Prop where
  len : l.length ≤ n
  ok : ∀ p ∈ l, PcOk p ∧ p.s.size ≤ 9223372036854775807
section
variable {P : Program} {ops : Array Oper} {Q : Exit → Act → World → Prop} {rest : List Oper} {o : Oper} {a : Act}
end
def MgPost (r : List Pc) (W : World) (e : Ending) (w' : World) : Prop := ∃ A c, e = .returned (.slice A r.length c) ∧ Sl w' A c r ∧ Below W.heap.size W w'
structure St (w : World) (A0 A1 A2 : Option Addr) (c0 c1 c2 : Nat) (a b c : List Pc) (W : World) : Prop where
  bel : Below w.heap.size w W
  s0 : Sl W A0 c0 a
  s1 : Sl W A1 c1 b
  s2 : Sl W A2 c2 c
theorem St.next {w W W' : World} {A0 A1 A2 : Option Addr} {c0 c1 c2 : Nat} {a b c : List Pc} (h : St w A0 A1 A2 c0 c1 c2 a b c W) (hb : Below W.heap.size W W') : St w A0 A1 A2 c0 c1 c2 a b c W' :=
  ⟨h.bel.trans (hb.mono h.bel.size), h.s0.next hb, h.s1.next hb, h.s2.next hb⟩
end Go.Proofs.YtlkcpbmbhbogoaaGreatDoor
/- Contract: the document's Cut. -/
namespace Go.Proofs.YtlkcpbmbhbogoaaGreatDoor
set_option linter.unusedVariables false
set_option linter.unusedSimpArgs false
set_option maxRecDepth 100000
open Go.RowKit
set_option linter.unusedVariables false
set_option linter.unusedSimpArgs false
theorem rcut_step (M : List Pc) (k : Nat) (hk : k < M.length) {out : List (List Pc)} {grp : List Pc} (h : rcutTo [] [] (M.take k) = (out, grp)) : rcutTo [] [] (M.take (k + 1)) = if 0 < grp.length ∧ chkL (grp ++ [M.getD k pc0]) ≠ 0 then (out ++ [grp], [M.getD k pc0]) else (out, grp ++ [M.getD k pc0]) := by
  rw [take_snocP M k hk, rcutTo_snoc, h]
structure RcI (w : World) (ls : List (List Pc)) (xs : List Value) (wr : World) (ov : Value) : Prop where
  own : OwnG wr w.heap.size ov xs
  bel : Below w.heap.size w wr
  gv : GsO wr ov xs ls
theorem RcI.next {w wr wr' : World} {ls : List (List Pc)} {xs : List Value} {ov : Value} (h : RcI w ls xs wr ov) (hb : Below wr.heap.size wr wr') : RcI w ls xs wr' ov :=
  ⟨h.own.next hb, h.bel.trans (hb.mono h.bel.size), h.gv.next hb⟩
theorem RcI.snoc {w wr W' : World} {ls : List (List Pc)} {xs : List Value} {ov v' : Value} {A : Option Addr} {c : Nat} {g : List Pc} {obj : Obj} (h : RcI w ls xs wr ov) (hc : g.length ≤ c) (hr : RdP wr wr.heap.size A g) (ha : Apart ov A (pcs g)) (hap : Apped (wr.alloc obj) w.heap.size 30 1 ov W' v' (xs.length + 1) (xs ++ [.slice A g.length c])) : RcI w (ls ++ [g]) (xs ++ [.slice A g.length c]) W' v' := by
  have hal : Below wr.heap.size wr (wr.alloc obj) := (Below.refl _ _).alloc (Nat.le_refl _) _
  have hs : w.heap.size ≤ (wr.alloc obj).heap.size := Nat.le_trans h.bel.size hal.size
  exact ⟨OwnG.snoc hap, (h.bel.alloc h.bel.size _).trans (hap.below (h.own.alloc _) hs), GsO.snoc (h.gv.next hal) hc ((Rd.below (show Rd wr wr.heap.size A (pcs g) from hr) hal).more hal.size) ha hap.grown hap.lies⟩
set_option maxRecDepth 100000 in
set_option maxHeartbeats 32000000 in
theorem rcut_c (A : Option Addr) (cap : Nat) (M : List Pc) (w : World) (hr : RdP w w.heap.size A M) (hl : M.length ≤ 1000) (hs : ∀ p ∈ M, p.s.size ≤ 1000000) :
    Calls Tryz.prog 14 #[.slice A M.length cap] w fun e w' => ∃ B c, e = .returned (.slice B (cutG M).length c) ∧ (cutG M).length ≤ c ∧ LsAt w' B (cutG M) ∧ Below w.heap.size w w' := by
  obtain ⟨i0, hi, hz0, hz1, hz2⟩ := piece_parts
  obtain ⟨j0, hj, hy0, hy1, hy2⟩ := info_parts grpInfo
  have HRM := Lib.hid hr
  have HLM := Lib.hid hl
  have HSM := Lib.hid hs
  have HEQ := Lib.hid (rcut_eq M)
  clear hr hl hs
  go_enter Tryz.func14, Tryz.ntmps14
  go_wp2_with fail
  go_loopw [3, 4, 5] (fun ov gv iv wr => ∃ k : Nat, k ≤ M.length ∧ iv = .int .i64 (k : Nat) ∧ ∃ (outL : List (List Pc)) (xs : List Value) (grp : List Pc) (Ag : Option Addr) (cg : Nat), rcutTo [] [] (M.take k) = (outL, grp) ∧ outL.length + grp.length ≤ k ∧ gv = .slice Ag grp.length cg ∧ grp.length ≤ cg ∧ RcI w outL xs wr ov ∧ RdP wr wr.heap.size Ag grp ∧ Apart ov Ag (pcs grp) ∧ ∀ q ∈ grp, q.s.size ≤ 1000000) (fun _ _ iv _ => M.length - (intOf iv).toNat)
  case atStart => exact ⟨0, Nat.zero_le _, rfl, [], [], [], none, 0, rfl, by simp, rfl, Nat.le_refl _, ⟨⟨rfl, .inl ⟨rfl, rfl⟩⟩, Below.refl _ _, GsO.nil_ _ _⟩, Rd.nil_ _ _ _, fun ad e => (by cases e), by simp⟩
  case round =>
    rename World => wr
    obtain ⟨k, hkl, rfl, outL, xs, grp, Ag, cg, hrc, hln, rfl, hcg, hI, hrg, hag, hgs⟩ := hrel
    by_cases hlt : k < M.length
    · have q1 : (k : Int) < (M.length : Int) := by omega
      obtain ⟨ad, rfl, hab, hat⟩ := (show RdP wr w.heap.size A M from Rd.below HRM.out hI.bel).open_ (by omega)
      obtain ⟨p, hpe⟩ : ∃ p, p = M.getD k pc0 := ⟨_, rfl⟩
      have hpa := hat.piece k hlt
      rw [← hpe] at hpa
      have hpm : p.s.size ≤ 1000000 := HSM.out p (by rw [hpe, List.getD_eq_getElem?_getD, List.getElem?_eq_getElem hlt]; exact List.getElem_mem hlt)
      have hst := rcut_step M k hlt hrc
      rw [← hpe] at hst
      obtain ⟨G, hG⟩ : ∃ G, G = grp ++ [p] := ⟨_, rfl⟩
      rw [← hG] at hst
      have HG := Lib.hid hG
      have HGL := Lib.hid (show grp.length ≤ 1000 by have := HLM.out; omega)
      have HGN := Lib.hid (show G.length = grp.length + 1 by rw [hG]; simp)
      have hxl : xs.length ≤ 1000 := by rw [hI.gv.len]; have := HLM.out; omega
      have HXL := Lib.hid hxl
      have HST := Lib.hid hst
      have m2 : (k : Int) ≤ 1000 := by have := HLM.out; omega
      have HLN := Lib.hid hln
      have HLT := Lib.hid hlt
      have HI := Lib.hid hI
      have HRG := Lib.hid hrg
      have HAG := Lib.hid hag
      have HCG := Lib.hid hcg
      have HPM := Lib.hid hpm
      have HRE := Lib.hid (fun (A : Option Addr) (c : Nat) (W : World) (h : RdP W W.heap.size A G) => rcheck_c A c G W h (by rw [hG, List.length_append]; have := HGL.out; simp; omega) (fun q hq => by
        rw [hG] at hq
        rcases List.mem_append.1 hq with h | h
        · exact hgs q h
        · rw [List.mem_singleton.1 h]; exact hpm))
      have HPA := Lib.hid (fun W (h : ∃ z : Ext wr, W = z.wd) => show AtA W (ad.add (k * 5)) (pcL p) by
        obtain ⟨z, rfl⟩ := h
        exact fun i u hu => z.cell (hpa i u hu))
      have HGS := Lib.hid (show ∀ q ∈ G, q.s.size ≤ 1000000 by
        intro q hq
        rw [hG] at hq
        rcases List.mem_append.1 hq with h | h
        · exact hgs q h
        · rw [List.mem_singleton.1 h]; exact hpm)
      have HPC := Lib.hid (fun W (hb : Below w.heap.size w W) => show AtA W (ad.add (k * 5)) (pcL p) by
        obtain ⟨ad2, e2, _, hat2⟩ := (show RdP W w.heap.size (some ad) M from Rd.below HRM.out hb).open_ (by omega)
        cases e2
        have h := hat2.piece k hlt
        rwa [← hpe] at h)
      clear hgs hrc hln hlt hkl hI hrg hag hcg hpm hst hG hpe hpa hat hab hxl
      go_upto_region 6 with fail
      go_cut [6] from 13 to 21 (fun s6 wx => OwnP wx wr.heap.size s6 G ∧ Below wr.heap.size wr wx)
      case first =>
        have hdr : ∃ x : Ext wr, wr.drew = x.wd := Ext.of (Below.refl _ _).drew
        refine wp_region_held (S := fun w' => ∃ x : Ext wr, w' = x.wd) (by kernel_rfl) ?_
        show wpAnyH _ _ _ _ _ 10 _ _ wr.drew
        refine anyH_quiet 1 rfl (by kernel_rfl) (by kernel_rfl) (by kernel_rfl) (fun _ _ _ _ h => h) rfl rfl hdr ?_
        intro K hK
        conv => arg 2; whnf
        go_big_quiet_op
        go_big_quiet_on
        refine anyH_quiet 3 rfl (by kernel_rfl) (by kernel_rfl) (by kernel_rfl) (fun _ _ _ _ h => h) rfl rfl hdr ?_
        intro K hK
        conv => arg 2; whnf
        go_big_quiet_op
        go_big_quiet_on
        refine anyH_quiet 4 rfl (by kernel_rfl) (by kernel_rfl) (by kernel_rfl) (fun _ _ _ _ h => h) rfl rfl hdr ?_
        intro K hK
        conv => arg 2; whnf
        go_big_quiet_op
        go_big_quiet_on
        refine anyH_quiet 5 rfl (by kernel_rfl) (by kernel_rfl) (by kernel_rfl) (fun _ _ _ _ h => h) rfl rfl hdr ?_
        intro K hK
        conv => arg 2; whnf
        go_big_quiet_op
        go_big_quiet_on
        refine anyH_quiet 6 rfl (by kernel_rfl) (by kernel_rfl) (by kernel_rfl) (fun _ _ _ _ h => h) rfl rfl hdr ?_
        intro K hK
        conv => arg 2; whnf
        refine quiet_loadA 58 (.tmp 18) rfl (ad.add (k * 5)) rfl (pcL p) _ HPA.out Tryz.underlying58 rfl (pcLn p) _ (by conv => lhs; arg 2; whnf) ?_
        go_big_quiet_on
        have hU : Below wr.heap.size wr wr.drew := (Below.refl _ _).drew
        generalize wr.drew = U at *
        clear hdr
        refine anyH_two 0 7 (by kernel_rfl) rfl rfl rfl rfl ?_ ?_
        · refine op_value (run_zero U rfl) _ (by conv => lhs; arg 2; whnf) ⟨Ext.of (hU.alloc hU.size _), ?_⟩
          try simp only [Act.put, List.setIfInBounds_toArray, List.set_cons_succ, List.set_cons_zero]
          obtain ⟨U0, eU0⟩ : ∃ U0, U0 = U.alloc (.cells #[] 58) := ⟨_, rfl⟩
          have hU0 : Below wr.heap.size wr U0 := by rw [eU0]; exact hU.alloc hU.size _
          have ow0 : OwnP U0 wr.heap.size (.slice (some ⟨U.heap.size, 0, none⟩) 0 0) [] := by rw [eU0]; exact own_zero U _ hU.size
          rw [← eU0]
          have EU0 := Lib.hid eU0
          clear eU0
          refine anyH_two 2 7 (by kernel_rfl) rfl rfl rfl rfl ?_ ?_
          · obtain ⟨v1, U1, hrun1, hap1⟩ := run_app (P := Tryz.prog) U0 wr.heap.size 30 30 58 i0 (.agg zPc) 5 48 Tryz.underlying30 hi hz0 hz1 hz2 rfl (by decide) (.slice (some ⟨U.heap.size, 0, none⟩) 0 0) 0 [] ow0 wr.heap.size Ag grp.length cg (pcs grp) (pcs_len _) (Rd.below (show Rd wr wr.heap.size Ag (pcs grp) from HRG.out) hU0) (pcs_oneCell _) (by have := HGL.out; omega) (by have := HGL.out; omega) hU0.size
            have hU1 : Below wr.heap.size wr U1 := hU0.trans (hap1.below ow0 hU0.size)
            have ow1 : OwnP U1 wr.heap.size v1 grp := by
              have h1 := hap1.own
              rwa [Nat.zero_add, List.nil_append] at h1
            refine op_value (op_appP rfl rfl rfl hrun1) _ (by conv => lhs; arg 2; whnf) ⟨Ext.of hU1, ?_⟩
            try simp only [Act.put, List.setIfInBounds_toArray, List.set_cons_succ, List.set_cons_zero]
            refine anyH_op 7 (by kernel_rfl) rfl rfl ?_
            refine op_value (run_onePc U1 p _ rfl rfl) _ (by conv => lhs; arg 2; whnf) ⟨Ext.of (hU1.alloc hU1.size _), ?_⟩
            try simp only [Act.put, List.setIfInBounds_toArray, List.set_cons_succ, List.set_cons_zero]
            obtain ⟨U2, eU2⟩ : ∃ U2, U2 = U1.alloc (.cells (pcV p) 58) := ⟨_, rfl⟩
            have hU2 : Below wr.heap.size wr U2 := by rw [eU2]; exact hU1.alloc hU1.size _
            have rd1 : Rd U2 (U1.heap.size + 1) (some ⟨U1.heap.size, 0, none⟩) (pcs [p]) := by rw [eU2]; exact rd_new U1 (pcs [p]) 58 (0, 0)
            rw [← eU2]
            have EU2 := Lib.hid eU2
            clear eU2
            have ow2 : OwnP U2 wr.heap.size v1 grp := by rw [EU2.out]; exact ow1.allocM _
            obtain ⟨v3, U3, hrun3, hap3⟩ := run_app (P := Tryz.prog) U2 wr.heap.size 30 30 58 i0 (.agg zPc) 5 48 Tryz.underlying30 hi hz0 hz1 hz2 rfl (by decide) v1 grp.length (pcs grp) ow2 (U1.heap.size + 1) (some ⟨U1.heap.size, 0, none⟩) 1 1 (pcs [p]) rfl rd1 (pcs_oneCell _) (by have := HGL.out; omega) (by have := HGL.out; omega) hU2.size
            have hb3 : Below wr.heap.size wr U3 := hU2.trans (hap3.below ow2 hU2.size)
            have ho3 : OwnP U3 wr.heap.size v3 G := by rw [HG.out]; exact OwnP.appM (l := grp) (m := [p]) hap3
            refine anyH_op 8 (by kernel_rfl) rfl rfl ?_
            refine op_value (op_appP rfl rfl rfl hrun3) _ (by conv => lhs; arg 2; whnf) ⟨Ext.of hb3, ?_⟩
            try simp only [Act.put, List.setIfInBounds_toArray, List.set_cons_succ, List.set_cons_zero]
            refine anyH_quiet 9 rfl (by kernel_rfl) (by kernel_rfl) (by kernel_rfl) (fun _ _ _ _ h => h) rfl rfl (Ext.of hb3) ?_
            intro K hK
            conv => arg 2; whnf
            go_big_quiet_op
            go_big_quiet_on
            refine wpAnyH_done (by kernel_rfl) ?_ _
            go_wp2_with fail
            go_meet
            exact ⟨ho3, hb3⟩
          · refine op_value (run_onePc U0 p _ rfl rfl) _ (by conv => lhs; arg 2; whnf) ⟨Ext.of (hU0.alloc hU0.size _), ?_⟩
            try simp only [Act.put, List.setIfInBounds_toArray, List.set_cons_succ, List.set_cons_zero]
            obtain ⟨U1, eU1⟩ : ∃ U1, U1 = U0.alloc (.cells (pcV p) 58) := ⟨_, rfl⟩
            have hU1 : Below wr.heap.size wr U1 := by rw [eU1]; exact hU0.alloc hU0.size _
            have rd1 : Rd U1 (U0.heap.size + 1) (some ⟨U0.heap.size, 0, none⟩) (pcs [p]) := by rw [eU1]; exact rd_new U0 (pcs [p]) 58 (0, 0)
            rw [← eU1]
            have EU1 := Lib.hid eU1
            clear eU1
            refine anyH_op 2 (by kernel_rfl) rfl rfl ?_
            have ow0 : OwnP U1 wr.heap.size (.slice (some ⟨U.heap.size, 0, none⟩) 0 0) [] := by rw [EU1.out]; exact ow0.allocM _
            obtain ⟨v1, U2, hrun1, hap1⟩ := run_app (P := Tryz.prog) U1 wr.heap.size 30 30 58 i0 (.agg zPc) 5 48 Tryz.underlying30 hi hz0 hz1 hz2 rfl (by decide) (.slice (some ⟨U.heap.size, 0, none⟩) 0 0) 0 [] ow0 wr.heap.size Ag grp.length cg (pcs grp) (pcs_len _) (Rd.below (show Rd wr wr.heap.size Ag (pcs grp) from HRG.out) hU1) (pcs_oneCell _) (by have := HGL.out; omega) (by have := HGL.out; omega) hU1.size
            have hU2 : Below wr.heap.size wr U2 := hU1.trans (hap1.below ow0 hU1.size)
            have ow1 : OwnP U2 wr.heap.size v1 grp := by
              have h1 := hap1.own
              rwa [Nat.zero_add, List.nil_append] at h1
            refine op_value (op_appP rfl rfl rfl hrun1) _ (by conv => lhs; arg 2; whnf) ⟨Ext.of hU2, ?_⟩
            try simp only [Act.put, List.setIfInBounds_toArray, List.set_cons_succ, List.set_cons_zero]
            have rd2 : Rd U2 (U0.heap.size + 1) (some ⟨U0.heap.size, 0, none⟩) (pcs [p]) := rd_grown rd1 hap1.grown (by rw [EU1.out]; simp) (by rw [EU0.out]; simp)
            obtain ⟨v3, U3, hrun3, hap3⟩ := run_app (P := Tryz.prog) U2 wr.heap.size 30 30 58 i0 (.agg zPc) 5 48 Tryz.underlying30 hi hz0 hz1 hz2 rfl (by decide) v1 grp.length (pcs grp) ow1 (U0.heap.size + 1) (some ⟨U0.heap.size, 0, none⟩) 1 1 (pcs [p]) rfl rd2 (pcs_oneCell _) (by have := HGL.out; omega) (by have := HGL.out; omega) hU2.size
            have hb3 : Below wr.heap.size wr U3 := hU2.trans (hap3.below ow1 hU2.size)
            have ho3 : OwnP U3 wr.heap.size v3 G := by rw [HG.out]; exact OwnP.appM (l := grp) (m := [p]) hap3
            refine anyH_op 8 (by kernel_rfl) rfl rfl ?_
            refine op_value (op_appP rfl rfl rfl hrun3) _ (by conv => lhs; arg 2; whnf) ⟨Ext.of hb3, ?_⟩
            try simp only [Act.put, List.setIfInBounds_toArray, List.set_cons_succ, List.set_cons_zero]
            refine anyH_quiet 9 rfl (by kernel_rfl) (by kernel_rfl) (by kernel_rfl) (fun _ _ _ _ h => h) rfl rfl (Ext.of hb3) ?_
            intro K hK
            conv => arg 2; whnf
            go_big_quiet_op
            go_big_quiet_on
            refine wpAnyH_done (by kernel_rfl) ?_ _
            go_wp2_with fail
            go_meet
            exact ⟨ho3, hb3⟩
        · refine op_value (run_onePc U p _ rfl rfl) _ (by conv => lhs; arg 2; whnf) ⟨Ext.of (hU.alloc hU.size _), ?_⟩
          try simp only [Act.put, List.setIfInBounds_toArray, List.set_cons_succ, List.set_cons_zero]
          obtain ⟨U0, eU0⟩ : ∃ U0, U0 = U.alloc (.cells (pcV p) 58) := ⟨_, rfl⟩
          have hU0 : Below wr.heap.size wr U0 := by rw [eU0]; exact hU.alloc hU.size _
          have rd1 : Rd U0 (U.heap.size + 1) (some ⟨U.heap.size, 0, none⟩) (pcs [p]) := by rw [eU0]; exact rd_new U (pcs [p]) 58 (0, 0)
          rw [← eU0]
          have EU0 := Lib.hid eU0
          clear eU0
          refine anyH_op 0 (by kernel_rfl) rfl rfl ?_
          refine op_value (run_zero U0 rfl) _ (by conv => lhs; arg 2; whnf) ⟨Ext.of (hU0.alloc hU0.size _), ?_⟩
          try simp only [Act.put, List.setIfInBounds_toArray, List.set_cons_succ, List.set_cons_zero]
          obtain ⟨U1, eU1⟩ : ∃ U1, U1 = U0.alloc (.cells #[] 58) := ⟨_, rfl⟩
          have hU1 : Below wr.heap.size wr U1 := by rw [eU1]; exact hU0.alloc hU0.size _
          have ow0 : OwnP U1 wr.heap.size (.slice (some ⟨U0.heap.size, 0, none⟩) 0 0) [] := by rw [eU1]; exact own_zero U0 _ hU0.size
          rw [← eU1]
          have EU1 := Lib.hid eU1
          clear eU1
          refine anyH_op 2 (by kernel_rfl) rfl rfl ?_
          obtain ⟨v1, U2, hrun1, hap1⟩ := run_app (P := Tryz.prog) U1 wr.heap.size 30 30 58 i0 (.agg zPc) 5 48 Tryz.underlying30 hi hz0 hz1 hz2 rfl (by decide) (.slice (some ⟨U0.heap.size, 0, none⟩) 0 0) 0 [] ow0 wr.heap.size Ag grp.length cg (pcs grp) (pcs_len _) (Rd.below (show Rd wr wr.heap.size Ag (pcs grp) from HRG.out) hU1) (pcs_oneCell _) (by have := HGL.out; omega) (by have := HGL.out; omega) hU1.size
          have hU2 : Below wr.heap.size wr U2 := hU1.trans (hap1.below ow0 hU1.size)
          have ow1 : OwnP U2 wr.heap.size v1 grp := by
            have h1 := hap1.own
            rwa [Nat.zero_add, List.nil_append] at h1
          refine op_value (op_appP rfl rfl rfl hrun1) _ (by conv => lhs; arg 2; whnf) ⟨Ext.of hU2, ?_⟩
          try simp only [Act.put, List.setIfInBounds_toArray, List.set_cons_succ, List.set_cons_zero]
          have rd2 : Rd U2 (U.heap.size + 1) (some ⟨U.heap.size, 0, none⟩) (pcs [p]) := rd_grown (Rd.below rd1 (by rw [EU1.out]; exact (Below.refl _ _).alloc (by rw [EU0.out]; simp) _)) hap1.grown (by rw [EU1.out, EU0.out]; simp; omega) (by rw [EU0.out]; simp)
          obtain ⟨v3, U3, hrun3, hap3⟩ := run_app (P := Tryz.prog) U2 wr.heap.size 30 30 58 i0 (.agg zPc) 5 48 Tryz.underlying30 hi hz0 hz1 hz2 rfl (by decide) v1 grp.length (pcs grp) ow1 (U.heap.size + 1) (some ⟨U.heap.size, 0, none⟩) 1 1 (pcs [p]) rfl rd2 (pcs_oneCell _) (by have := HGL.out; omega) (by have := HGL.out; omega) hU2.size
          have hb3 : Below wr.heap.size wr U3 := hU2.trans (hap3.below ow1 hU2.size)
          have ho3 : OwnP U3 wr.heap.size v3 G := by rw [HG.out]; exact OwnP.appM (l := grp) (m := [p]) hap3
          refine anyH_op 8 (by kernel_rfl) rfl rfl ?_
          refine op_value (op_appP rfl rfl rfl hrun3) _ (by conv => lhs; arg 2; whnf) ⟨Ext.of hb3, ?_⟩
          try simp only [Act.put, List.setIfInBounds_toArray, List.set_cons_succ, List.set_cons_zero]
          refine anyH_quiet 9 rfl (by kernel_rfl) (by kernel_rfl) (by kernel_rfl) (fun _ _ _ _ h => h) rfl rfl (Ext.of hb3) ?_
          intro K hK
          conv => arg 2; whnf
          go_big_quiet_op
          go_big_quiet_on
          refine wpAnyH_done (by kernel_rfl) ?_ _
          go_wp2_with fail
          go_meet
          exact ⟨ho3, hb3⟩
      case rest =>
        obtain ⟨ho3, hb3⟩ := hcut
        obtain ⟨A3, c3, rfl, hc3, _, hr3⟩ := ho3.rd
        have HA3 := Lib.hid (apart_new (v := .slice A3 G.length c3) HI.out.own ho3 (Nat.le_refl _) rfl)
        have HI3 := Lib.hid (HI.out.next hb3)
        have HRG3 := Lib.hid (show RdP wc wc.heap.size Ag grp from (Rd.below (show Rd wr wr.heap.size Ag (pcs _) from HRG.out) hb3).more hb3.size)
        have HC3 := Lib.hid hc3
        have HR3 := Lib.hid (show RdP wc wc.heap.size A3 G from hr3)
        have hre := HRE.out A3 c3 wc hr3
        clear ho3 hb3 hc3 hr3 HI HRG HRE HPA
        by_cases hg0 : 0 < grp.length
        · have r0 : (0 : Int) < (grp.length : Int) := by omega
          by_cases hck : chkL G = 0
          · have HSN := Lib.hid (show rcutTo [] [] (M.take (k + 1)) = (outL, G) by rw [HST.out, if_neg (fun h => h.2 hck)])
            rw [hck] at hre
            have hre2 : Calls Tryz.prog 27 #[.slice A3 G.length c3] wc fun e w' => e = .returned (.int .i64 0) ∧ Below wc.heap.size wc w' := hre
            have HRE := Lib.hid hre2
            have HG0 := Lib.hid hg0
            clear hre hre2 hck hg0
            go_wp2_with (go_at_call 27; (with_reducible refine HRE.out.mono ?_); rintro e w3 ⟨rfl, hb⟩; have HI4 := Lib.hid (HI3.out.next hb); have HR4 := Lib.hid (show RdP w3 w3.heap.size A3 G from (Rd.below (show Rd wc wc.heap.size A3 (pcs _) from HR3.out) hb).more hb.size); clear hb)
            go_roundw
            case rel => exact ⟨k + 1, HLT.out, by go_num, outL, xs, G, A3, c3, HSN.out, by have := HGN.out; have := HLN.out; omega, rfl, HC3.out, HI4.out, HR4.out, HA3.out, HGS.out⟩
            case measure => have := HLT.out; simp [intOf]; omega
          · have key : ∃ kk : Int, (kk = 1 ∨ kk = 3) ∧ Calls Tryz.prog 27 #[.slice A3 G.length c3] wc (fun e w' => e = .returned (.int .i64 kk) ∧ Below wc.heap.size wc w') := by
              rcases chk_vals G with h | h | h
              · exact absurd h hck
              · exact ⟨1, .inl rfl, by rw [h] at hre; exact hre⟩
              · exact ⟨3, .inr rfl, by rw [h] at hre; exact hre⟩
            obtain ⟨kk, hkk, hre2⟩ := key
            have s1 : (kk != 0) = true := by rcases hkk with rfl | rfl <;> rfl
            have s2 : ¬ kk = 0 := by rcases hkk with rfl | rfl <;> decide
            have HSN := Lib.hid (show rcutTo [] [] (M.take (k + 1)) = (outL ++ [grp], [p]) by rw [HST.out, if_pos ⟨hg0, hck⟩])
            have HRE := Lib.hid hre2
            have HG0 := Lib.hid hg0
            clear hre hre2 hck hkk hg0
            go_wp2_with (first
              | (go_at_call 27; (with_reducible refine HRE.out.mono ?_); rintro e w3 ⟨rfl, hb⟩; have HI4 := Lib.hid (HI3.out.next hb); have HR4 := Lib.hid (show RdP w3 w3.heap.size Ag grp from (Rd.below (show Rd wc wc.heap.size Ag (pcs _) from HRG3.out) hb).more hb.size); clear hb)
              | (refine wpList_l1 (.tmp 31) rfl Ag grp.length cg rfl rfl ?_)
              | (at_builtin; refine wpList_app _ rfl (.tmp 30) (.tmp 32) _ rfl w.heap.size 30 j0 (.slice none 0 0) 1 24 Tryz.underlying24 hj hy0 hy1 hy2 rfl (by decide) _ _ xs rfl (HI4.out.own.alloc _) _ (some ⟨w3.heap.size, 0, none⟩) 1 1 [.slice Ag grp.length cg] rfl rfl (by exact rd_new w3 [.slice Ag grp.length cg] _ (0, 0)) (by intro u hu; rw [List.mem_singleton.1 hu]; rfl) (by have := HXL.out; omega) (by have := HXL.out; omega) (by have := HI4.out.bel.size; simp; omega) ?_
                 intro v' w4 hap
                 have HI5 := Lib.hid (RcI.snoc HI4.out HCG.out HR4.out HAG.out hap)
                 clear hap)
              | (refine wpList_loadA rfl 58 (.tmp 36) rfl (ad.add (k * 5)) rfl (pcL p) _ (HPC.out w4 HI5.out.bel) Tryz.underlying58 rfl (pcLn p) ?_)
              | (refine wpList_valM rfl _ _ (run_onePc w4 p (.tmp 37) rfl (by rfl)) ?_))
            go_roundw
            case rel =>
              have hal : Below w4.heap.size w4 (w4.alloc (.cells (pcV p) 58)) := (Below.refl _ _).alloc (Nat.le_refl _) _
              refine ⟨k + 1, HLT.out, by go_num, outL ++ [grp], xs ++ [.slice Ag grp.length cg], [p], some ⟨w4.heap.size, 0, none⟩, 1, HSN.out, ?_, rfl, Nat.le_refl _, HI5.out.next hal, (rd_new w4 (pcs [p]) 58 (0, 0)).more (by simp), ?_, ?_⟩
              · rw [List.length_append]; have := HLN.out; have := HG0.out; simp; omega
              · intro ad1 e1 _ h1
                injection e1 with e1
                subst e1
                have := own_lt HI5.out.own _ h1.symm
                simp at this
              · intro q hq
                rw [List.mem_singleton.1 hq]; exact HPM.out
            case measure => have := HLT.out; simp [intOf]; omega
        · have r0 : ¬ (0 : Int) < (grp.length : Int) := by omega
          have HSN := Lib.hid (show rcutTo [] [] (M.take (k + 1)) = (outL, G) by rw [HST.out, if_neg (fun h => hg0 h.1)])
          clear hre hg0
          go_wp2_with fail
          go_roundw
          case rel => exact ⟨k + 1, HLT.out, by go_num, outL, xs, G, A3, c3, HSN.out, by have := HGN.out; have := HLN.out; omega, rfl, HC3.out, HI3.out, HR3.out, HA3.out, HGS.out⟩
          case measure => have := HLT.out; simp [intOf]; omega
    · obtain rfl : k = M.length := by omega
      rw [List.take_length] at hrc
      have hxl : xs.length ≤ 1000 := by rw [hI.gv.len]; have := HLM.out; omega
      have HXL := Lib.hid hxl
      have HI := Lib.hid hI
      have HRG := Lib.hid hrg
      have HAG := Lib.hid hag
      have HCG := Lib.hid hcg
      have heq := HEQ.out
      unfold rcut at heq
      rw [hrc] at heq
      by_cases hg0 : 0 < grp.length
      · have r0 : (0 : Int) < (grp.length : Int) := by omega
        have HE := Lib.hid (show outL ++ [grp] = cutG M by rw [← heq]; unfold rcutEnd; rw [if_pos hg0])
        clear hrc hln hcg hI hrg hag hgs hlt hkl hxl heq hg0
        go_wp2_with (first
          | (refine wpList_l1 (.tmp 44) rfl Ag grp.length cg rfl rfl ?_)
          | (at_builtin; refine wpList_app _ rfl (.tmp 43) (.tmp 45) _ rfl w.heap.size 30 j0 (.slice none 0 0) 1 24 Tryz.underlying24 hj hy0 hy1 hy2 rfl (by decide) _ _ xs rfl (HI.out.own.alloc _) _ (some ⟨wr.heap.size, 0, none⟩) 1 1 [.slice Ag grp.length cg] rfl rfl (by exact rd_new wr [.slice Ag grp.length cg] _ (0, 0)) (by intro u hu; rw [List.mem_singleton.1 hu]; rfl) (by have := HXL.out; omega) (by have := HXL.out; omega) (by have := HI.out.bel.size; simp; omega) ?_
             intro v' w4 hap
             have HI5 := Lib.hid (RcI.snoc HI.out HCG.out HRG.out HAG.out hap)
             clear hap))
        go_ret
        obtain ⟨B, c, rfl, h1, h2⟩ := ls_of HI5.out.own HI5.out.gv.gv
        rw [HE.out] at h1 h2 ⊢
        exact ⟨B, c, rfl, h1, h2, HI5.out.bel⟩
      · have r0 : ¬ (0 : Int) < (grp.length : Int) := by omega
        have HE := Lib.hid (show outL = cutG M by rw [← heq]; unfold rcutEnd; rw [if_neg hg0])
        clear hrc hln hcg hI hrg hag hgs hlt hkl hxl heq hg0
        go_wp2_with fail
        go_ret
        obtain ⟨B, c, e, h1, h2⟩ := ls_of HI.out.own HI.out.gv.gv
        rw [HE.out] at e h1 h2
        exact ⟨B, c, by rw [e]; rfl, h1, h2, HI.out.bel⟩
end Go.Proofs.YtlkcpbmbhbogoaaGreatDoor
/- Contract: block.Pack. -/
namespace Go.Proofs.YtlkcpbmbhbogoaaGreatDoor
set_option linter.unusedVariables false
set_option linter.unusedSimpArgs false
set_option maxRecDepth 100000
open Go.RowKit
set_option linter.unusedVariables false
set_option linter.unusedSimpArgs false
theorem blk_lt {w : World} {g : Nat} {T : TypeId} {cs : Array Value} (h : Blk w g T cs) : g < w.heap.size := h.lt
theorem op_allocP {P : Program} {o : Oper} {a : Act} {w : World} {T : TypeId} {z : Array Value} (ho : o.op = .alloc T) (hz : ∀ w, (zeroValue T).run P w = .ok (.agg z) w) (hne : ¬ z = #[]) :
    (execOp a.eval o).run P w = .ok (.value (.pointer (some ⟨w.heap.size, 0, none⟩))) (w.alloc (.cells z T)) := by
  unfold execOp
  simp [ho, Instr.alloc, hz, newVar, newRow, Value.cells, hne]
/-- a row of the call's own stays where a block that isn't its own is written -/
theorem own_off {W W' : World} {base b : Nat} {v : Value} {l : List Nat} (h : OwnB W base v l) (ho : Only (fun i => i = b) W W') (hn : v.ownBlock ≠ some b) : OwnB W' base v l :=
  own_keep (S := fun i => i = b) h ho (fun g e hg => hn (by rw [e, hg]))
theorem setRow_only (W : World) (b : Nat) (cs : Array Value) : Only (fun i => i = b) W (W.setRow b cs) :=
  ⟨rfl, rfl, rfl, by simp [World.setRow], fun i hi hn => setRow_other _ _ i _ hn⟩
/-- what block.Pack hands back -/
def boxes (k : List Nat) (t : ByteArray) (ep : Nat) (gs : List (List Pc)) (n : Nat) : List Bxo := bosTo (fun _ => k) t (fun _ => ep) (fun i => gs.getD i []) n
def PackD (k : List Nat) (t : ByteArray) (ep : Nat) (gs : List (List Pc)) (N : Nat) (w : World) (e : Ending) (w' : World) : Prop :=
  ((N < gs.length ∧ e = .returned (.tuple #[.slice none 0 0, .int .i64 14])) ∨ (gs.length ≤ N ∧ 0 < gs.length ∧ nameB t = false ∧ e = .returned (.tuple #[.slice none 0 0, .int .i64 1])) ∨
    (gs.length ≤ N ∧ (0 < gs.length → nameB t = true) ∧ ∃ A c, e = .returned (.tuple #[.slice A gs.length c, .int .i64 0]) ∧ gs.length ≤ c ∧ RdX w' A (boxes k t ep gs gs.length))) ∧ Below w.heap.size w w'
structure PkI (W1 wr : World) (lv : Value) (us : List (List Value)) (bs : List Bxo) : Prop where
  own : OwnX wr W1.heap.size lv us
  bel : Below W1.heap.size W1 wr
  bv : BsQ wr (fun b => some b ≠ lv.ownBlock) us bs
theorem PkI.next {W1 wr wr' : World} {lv : Value} {us : List (List Value)} {bs : List Bxo} (h : PkI W1 wr lv us bs) (hb : Below wr.heap.size wr wr') : PkI W1 wr' lv us bs :=
  ⟨h.own.next hb, h.bel.trans (hb.mono h.bel.size), h.bv.next hb⟩
theorem PkI.box {W1 W W' : World} {lv lv' : Value} {us : List (List Value)} {bs : List Bxo} {b : Bxo} {A : Option Addr} {c : Nat} (h : PkI W1 W lv us bs) (hap : Apped W W1.heap.size 39 15 lv W' lv' (us.length + 1) (us.flatten ++ bxL b.t b.ep b.nn A b.body.length c))
    (hc : b.body.length ≤ c) (hr : Rd W W.heap.size A (byt b.body)) (ha : ∀ ad, A = some ad → byt b.body ≠ [] → some ad.block ≠ lv.ownBlock) (hok : BoOk b) : PkI W1 W' lv' (us ++ [bxL b.t b.ep b.nn A b.body.length c]) (bs ++ [b]) := by
  refine ⟨OwnX.snoc hap, h.bel.trans (hap.below h.own h.bel.size), ?_⟩
  refine (h.bv.snoc hc hr ha hok).imp (P' := fun b => some b ≠ lv.ownBlock ∧ some b ≠ lv'.ownBlock) (fun b hb hp => ⟨hp, ?_⟩) |>.grown hap.grown (fun b hb => hb.1) |>.imp (fun b _ hp => hp.2)
  rcases hap.lies with h3 | h3
  · rw [h3]; exact hp
  · rw [h3]; intro e; injection e with e; omega
set_option maxRecDepth 100000 in
set_option maxHeartbeats 32000000 in
theorem pack_c (k : List Nat) (t : ByteArray) (ep : Nat) (A : Option Addr) (ca : Nat) (l : List Pc) (An : Option Addr) (cn N : Nat) (w : World) (hk : k.length = 32) (hkb : ∀ c ∈ k, c < 256) (ht : t.size ≤ 1000) (he : ep < 4294967296) (hr : RdP w w.heap.size A l) (hc : l.length ≤ ca) (hl : l.length ≤ 1000) (hok : ∀ p ∈ l, PcOk p ∧ p.s.size ≤ 1000000) (hn : RdN w w.heap.size An (nns N)) (hN : N ≤ 100) (hq : QuartersAt w) :
    Calls Tryz.prog 15 #[.agg (vb k), .string t, .int .u32 (ep : Nat), .slice A l.length ca, .slice An N cn] w (PackD k t ep (cutG (mergeL l)) N w) := by
  obtain ⟨ib, hib, hb0, hb1x, hb2x⟩ := parts_of boxInfo
  have zf := zero_bx
  have zs1 : zBx.size = 15 := by rfl
  have zs2 : ¬ zBx = #[] := by intro h; have := congrArg Array.size h; rw [zs1] at this; cases this
  obtain ⟨Z, hZ⟩ : ∃ Z, Z = w.alloc (Obj.cells (vb k) 23) := ⟨_, rfl⟩
  have hbz : Below w.heap.size w Z := by rw [hZ]; exact (Below.refl _ _).alloc (Nat.le_refl _) _
  have hkz : Blk Z w.heap.size 23 (vb k) := by rw [hZ]; exact Blk.new _ _ _
  have hsz : w.heap.size < Z.heap.size := by rw [hZ]; simp
  have HCU := Lib.hid (cutS_c A ca l Z ((Rd.below (show Rd w w.heap.size A (pcs l) from hr) hbz).more hbz.size) hc hl (fun p hp => ⟨(hok p hp).1, by have := (hok p hp).2; omega⟩))
  have HCO := Lib.hid (cut_ok (mergeL l) (merge_sorted l) (fun p hp => ((mem_merge l p).1 hp).2.1))
  have HFL := Lib.hid (show ∀ g ∈ cutG (mergeL l), ∀ p ∈ g, PcOk p ∧ p.s.size ≤ 1000000 from fun g hg p hp => hok p (merge_sub l p (by rw [← cut_flat (mergeL l)]; exact List.mem_flatten.2 ⟨g, hg, hp⟩)))
  have HGL := Lib.hid (show ∀ g ∈ cutG (mergeL l), g.length ≤ 1000 from fun g hg => by
    have h1 : g.length ≤ (cutG (mergeL l)).flatten.length := by
      obtain ⟨a, b, e⟩ := List.append_of_mem hg
      rw [e, List.flatten_append, List.flatten_cons, List.length_append, List.length_append]
      omega
    rw [cut_flat] at h1
    exact Nat.le_trans h1 (Nat.le_trans (merge_len l) hl))
  have HK := Lib.hid hk
  have HKB := Lib.hid hkb
  have HT := Lib.hid ht
  have HE := Lib.hid he
  have HNR := Lib.hid (show RdN Z Z.heap.size An (nns N) from (Rd.below (show Rd w w.heap.size An (nnC _) from hn) hbz).more hbz.size)
  have HNN := Lib.hid hN
  have HQ := Lib.hid (hq.next hbz)
  have HBZ := Lib.hid hbz
  have HKZ := Lib.hid hkz
  have HSS := Lib.hid hsz
  have HKL := Lib.hid (show (Tryz.prog.info? 23).map (·.size) = some (byt k).length by rw [byt_len, hk]; kernel_rfl)
  clear hk hkb ht he hr hc hok hn hN hq hbz hkz hsz hl
  generalize cutG (mergeL l) = gs at *
  go_enter Tryz.func15, Tryz.ntmps15
  go_upto_region 1 with (refine Go.Great.wpList_boxTo rfl 23 (.tmp 0) rfl (some 5) rfl w.heap.size rfl (vb k) rfl ?_)
  rw [← hZ]
  clear hZ
  go_upto_region 2 with (first
    | (go_at_call 13; (with_reducible refine HCU.out.mono ?_); rintro e W1 ⟨B, cB, rfl, hcb, hcb2, hls, hb1⟩; have HB1 := Lib.hid hb1; have HLS := Lib.hid hls; have HGC := Lib.hid hcb2; have HGB := Lib.hid hcb; clear hb1 hls hcb hcb2))
  clear HCU
  have hg63 : (gs.length : Int) ≤ 9223372036854775807 := by have h1 := HGB.out; have h2 := HGC.out; unfold maxLen at h2; omega
  have HWB := Lib.hid (HBZ.out.trans (HB1.out.mono HBZ.out.size))
  by_cases hgn : N < gs.length
  · have q1 : (N : Int) < (gs.length : Int) := by omega
    have HGN := Lib.hid hgn
    clear hgn
    go_wp2_with fail
    refine bodyPost_ret (results_tmp2 rfl _ _ _) rfl ?_
    exact ⟨.inl ⟨HGN.out, rfl⟩, HWB.out⟩
  · have q1 : ¬ (N : Int) < (gs.length : Int) := by omega
    have HGN := Lib.hid (Nat.le_of_not_lt hgn)
    have m0 : (gs.length : Int) ≤ 100 := by have := HNN.out; omega
    clear hgn
    go_wp2_with fail
    go_loopw [13, 27] (fun lv iv wr => ∃ i : Nat, i ≤ gs.length ∧ iv = .int .i64 (i : Nat) ∧ (∃ us, PkI W1 wr lv us (boxes k t ep gs i)) ∧ (0 < i → nameB t = true)) (fun _ iv _ => gs.length - (intOf iv).toNat)
    case atStart => exact ⟨0, Nat.zero_le _, rfl, ⟨[], OwnX.nil_ _ _, Below.refl _ _, BsQ.nil_ _ _⟩, fun h => by omega⟩
    case round =>
      rename World => wr
      obtain ⟨i, hi, rfl, ⟨us, hP⟩, hnm⟩ := hrel
      by_cases hlt : i < gs.length
      · have r1 : (i : Int) < (gs.length : Int) := by omega
        have m2 : (i : Int) ≤ 100 := by omega
        have r2 : (i : Int) < (N : Int) := by have := HGN.out; omega
        obtain ⟨ad, Ai, ci, rfl, had, hcell, hci, hri⟩ := (HLS.out.next hP.bel) i hlt
        obtain ⟨an, rfl, han, hatn⟩ := (show RdN wr Z.heap.size An (nns N) from Rd.below (Rd.below (show Rd Z Z.heap.size An (nnC _) from HNR.out) HB1.out) (hP.bel.mono HB1.out.size)).at_ (fun x hx => by
          unfold nns at hx
          obtain ⟨j, _, rfl⟩ := List.mem_map.1 hx
          exact nnI_len j) (i := i) (by rw [nns_len]; have := HGN.out; omega)
        rw [nns_at (by have := HGN.out; omega)] at hatn
        have hgm : gs.getD i [] ∈ gs := by rw [List.getD_eq_getElem?_getD, List.getElem?_eq_getElem hlt]; exact List.getElem_mem hlt
        obtain ⟨hck, hgp⟩ := HCO.out _ hgm
        have hgo := HFL.out _ hgm
        have hgl := HGL.out _ hgm
        have hbs : boxes k t ep gs (i + 1) = boxes k t ep gs i ++ [boI k t ep i (gs.getD i [])] := bosTo_succ ..
        obtain ⟨g, hg⟩ : ∃ g, g = gs.getD i [] := ⟨_, rfl⟩
        rw [← hg] at hcell hci hri hgm hck hgp hgo hgl hbs
        have hqr := (HQ.out.next HB1.out).next hP.bel
        obtain ⟨T', ep', nn', bd', E, hcs, hnl, hse⟩ : ∃ (T' : ByteArray) (ep' : Nat) (nn' bd' : List Nat) (E : Nat), ((E = 0 ∧ nameB t = true ∧ T' = t ∧ ep' = ep ∧ nn' = nnI i ∧ bd' = boxL k (nnI i) t ep g) ∨ (E = 1 ∧ nameB t = false)) ∧ nn'.length = 12 ∧ ∀ U, Below wr.heap.size wr U → Calls Tryz.prog 28 #[.agg (vb k), .agg (vb (nnI i)), .string t, .int .u32 (ep : Int), .slice Ai g.length ci] U (BoxR T' ep' nn' bd' E U) := by
          have hrU : ∀ U, Below wr.heap.size wr U → RdP U U.heap.size Ai g := fun U hb => (Rd.below (show Rd wr wr.heap.size Ai (pcs _) from hri) hb).more hb.size
          cases hn : nameB t with
          | true => exact ⟨t, ep, nnI i, boxL k (nnI i) t ep g, 0, .inl ⟨rfl, rfl, rfl, rfl, rfl, rfl⟩, nnI_len i, fun U hb => sealYes_c k (nnI i) t ep Ai ci g U HK.out HKB.out (nnI_len i) (nnI_lt i) (by have := HT.out; omega) HE.out (hrU U hb) hci (by omega) hgo hn hck (hqr.next hb)⟩
          | false => exact ⟨ByteArray.empty, 0, n12z, [], 1, .inr ⟨rfl, rfl⟩, rfl, fun U hb => by
              have h0 : sealE t g = 1 := by unfold sealE; rw [hn]; rfl
              have h := sealNo_c k (nnI i) t ep Ai ci g U HK.out HKB.out (nnI_len i) (nnI_lt i) (by have := HT.out; omega) HE.out (hrU U hb) hci (by omega) hgo (by rw [h0]; decide)
              rw [h0] at h
              exact h⟩
        have HSE := Lib.hid hse
        have HCS := Lib.hid hcs
        have HSZ := Lib.hid (fun A n c => bxSz T' ep' (nn := nn') A n c hnl)
        have HZS := Lib.hid (fun A n c => show zBx.size = (bxV T' ep' nn' A n c).size by rw [zBx_size]; unfold bxV; rw [List.size_toArray, bxL_len T' ep' A n c hnl])
        have HNL2 := Lib.hid hnl
        have HP := Lib.hid hP
        have HNM := Lib.hid hnm
        have HLT := Lib.hid hlt
        have HBS := Lib.hid hbs
        have HG := Lib.hid hg
        have HCK := Lib.hid hck
        have hk5 : Blk wr w.heap.size 23 (vb k) := (HKZ.out.below (HB1.out) HSS.out).below hP.bel (Nat.lt_of_lt_of_le HSS.out HB1.out.size)
        have HKA := Lib.hid (fun (W : World) (h : ∃ x : Ext wr, W = x.wd) => show AtA W ⟨w.heap.size, 0, none⟩ (byt k) by
          obtain ⟨x, rfl⟩ := h
          exact fun j u hu => x.cell (atA_blk hk5 j u hu))
        have HNA := Lib.hid (fun (W : World) (h : ∃ x : Ext wr, W = x.wd) => show AtA W (an.add (i * 12)) (byt (nnI i)) by
          obtain ⟨x, rfl⟩ := h
          exact fun j u hu => x.cell (hatn j u hu))
        have HNL := Lib.hid (show (Tryz.prog.info? 37).map (·.size) = some (byt (nnI i)).length by rw [byt_len, nnI_len]; kernel_rfl)
        have HUL := Lib.hid (show us.length ≤ 100 by rw [hP.bv.len]; unfold boxes; rw [bosTo_len]; omega)
        clear hP hnm hlt hi hbs hg hck hgp hgo hgl hgm hse hcs hnl hk5 hatn hri hci hqr had han
        go_upto_region 8 with fail
        clear hcell
        go_cut [16, 17] from 32 to 43 (fun p e wx => ∃ b Ab cb, p = .pointer (some ⟨b, 0, none⟩) ∧ e = .int .i64 (E : Nat) ∧ Blk wx b 39 (bxV T' ep' nn' Ab bd'.length cb) ∧ OwnB wx wr.heap.size (.slice Ab bd'.length cb) bd' ∧ Below wr.heap.size wr wx ∧ wr.heap.size ≤ b ∧ b < wx.heap.size)
        case first =>
          have hdr : ∃ x : Ext wr, wr.drew = x.wd := Ext.of (Below.refl _ _).drew
          refine wp_region_held (S := fun w' => ∃ x : Ext wr, w' = x.wd) (by kernel_rfl) ?_
          show wpAnyH _ _ _ _ _ 15 _ _ wr.drew
          refine anyH_quiet 0 rfl (by kernel_rfl) (by kernel_rfl) (by kernel_rfl) (fun _ _ _ _ h => h) rfl rfl hdr ?_
          intro K hK
          conv => arg 2; whnf
          refine quiet_loadA 23 (.tmp 5) rfl ⟨w.heap.size, 0, none⟩ rfl (byt k) _ HKA.out Tryz.underlying23 rfl HKL.out _ (by conv => lhs; arg 2; whnf) ?_
          go_big_quiet_on
          try simp only [Act.put, List.setIfInBounds_toArray, List.set_cons_succ, List.set_cons_zero]
          refine anyH_quiet 1 rfl (by kernel_rfl) (by kernel_rfl) (by kernel_rfl) (fun _ _ _ _ h => h) rfl rfl hdr ?_
          intro K hK
          conv => arg 2; whnf
          go_big_quiet_op
          go_big_quiet_on
          refine anyH_quiet 2 rfl (by kernel_rfl) (by kernel_rfl) (by kernel_rfl) (fun _ _ _ _ h => h) rfl rfl hdr ?_
          intro K hK
          conv => arg 2; whnf
          go_big_quiet_op
          go_big_quiet_on
          refine anyH_quiet 3 rfl (by kernel_rfl) (by kernel_rfl) (by kernel_rfl) (fun _ _ _ _ h => h) rfl rfl hdr ?_
          intro K hK
          conv => arg 2; whnf
          go_big_quiet_op
          go_big_quiet_on
          refine anyH_quiet 4 rfl (by kernel_rfl) (by kernel_rfl) (by kernel_rfl) (fun _ _ _ _ h => h) rfl rfl hdr ?_
          intro K hK
          conv => arg 2; whnf
          refine quiet_loadA 37 (.tmp 36) rfl (an.add (i * 12)) rfl (byt (nnI i)) _ HNA.out Tryz.underlying37 rfl HNL.out _ (by conv => lhs; arg 2; whnf) ?_
          go_big_quiet_on
          try simp only [Act.put, List.setIfInBounds_toArray, List.set_cons_succ, List.set_cons_zero]
          refine anyH_quiet 5 rfl (by kernel_rfl) (by kernel_rfl) (by kernel_rfl) (fun _ _ _ _ h => h) rfl rfl hdr ?_
          intro K hK
          conv => arg 2; whnf
          go_big_quiet_op
          go_big_quiet_on
          refine anyH_quiet 6 rfl (by kernel_rfl) (by kernel_rfl) (by kernel_rfl) (fun _ _ _ _ h => h) rfl rfl hdr ?_
          intro K hK
          conv => arg 2; whnf
          go_big_quiet_op
          go_big_quiet_on
          refine anyH_quiet 7 rfl (by kernel_rfl) (by kernel_rfl) (by kernel_rfl) (fun _ _ _ _ h => h) rfl rfl hdr ?_
          intro K hK
          conv => arg 2; whnf
          go_big_quiet_op
          go_big_quiet_on
          have hU : Below wr.heap.size wr wr.drew := (Below.refl _ _).drew
          generalize wr.drew = U at *
          clear hdr
          refine anyH_two 8 12 (by kernel_rfl) rfl rfl rfl rfl ?_ ?_
          · refine op_call (by kernel_rfl) _ (fun v => by conv => lhs; arg 2; whnf) ((HSE.out U hU).mono ?_)
            rintro e V ⟨Ab, cb, rfl, hob, hb1⟩
            have hV : Below wr.heap.size wr V := hU.trans (hb1.mono hU.size)
            refine ⟨_, rfl, Ext.of hV, ?_⟩
            try simp only [Act.put, List.setIfInBounds_toArray, List.set_cons_succ, List.set_cons_zero]
            refine anyH_quiet 9 rfl (by kernel_rfl) (by kernel_rfl) (by kernel_rfl) (fun _ _ _ _ h => h) rfl rfl (Ext.of hV) ?_
            intro K hK
            conv => arg 2; whnf
            go_big_quiet_op
            go_big_quiet_on
            refine anyH_quiet 10 rfl (by kernel_rfl) (by kernel_rfl) (by kernel_rfl) (fun _ _ _ _ h => h) rfl rfl (Ext.of hV) ?_
            intro K hK
            conv => arg 2; whnf
            go_big_quiet_op
            go_big_quiet_on
            refine anyH_quiet 11 rfl (by kernel_rfl) (by kernel_rfl) (by kernel_rfl) (fun _ _ _ _ h => h) rfl rfl (Ext.of hV) ?_
            intro K hK
            conv => arg 2; whnf
            go_big_quiet_op
            go_big_quiet_on
            refine anyH_op 12 (by kernel_rfl) rfl rfl ?_
            refine op_value (op_allocP rfl zf zs2) _ (by conv => lhs; arg 2; whnf) ⟨Ext.of (hV.alloc hV.size _), ?_⟩
            try simp only [Act.put, List.setIfInBounds_toArray, List.set_cons_succ, List.set_cons_zero]
            obtain ⟨X, eX⟩ : ∃ X, X = V.alloc (.cells zBx 39) := ⟨_, rfl⟩
            have hVX : Below V.heap.size V X := by rw [eX]; exact (Below.refl _ _).alloc (Nat.le_refl _) _
            have hX : Below wr.heap.size wr X := hV.trans (hVX.mono hV.size)
            have hzX : Blk X V.heap.size 39 zBx := by rw [eX]; exact Blk.new _ _ _
            rw [← eX]
            have hsX : V.heap.size < X.heap.size := by rw [eX]; simp
            clear eX
            have hb0 : wr.heap.size ≤ V.heap.size := hV.size
            have hob2 := hob.next hVX
            obtain ⟨R, eR⟩ : ∃ R, R = X.setRow V.heap.size (bxV T' ep' nn' Ab bd'.length cb) := ⟨_, rfl⟩
            have hVR : Below V.heap.size X R := by rw [eR]; exact below_setRowP _ _ _ (Nat.le_refl _)
            have hR : Below wr.heap.size wr R := hX.trans (hVR.mono hb0)
            have hRO : Only (fun i => i = V.heap.size) X R := by rw [eR]; exact setRow_only _ _ _
            have hRb : Blk R V.heap.size 39 (bxV T' ep' nn' Ab bd'.length cb) := by rw [eR]; exact setRow_heap _ _ zBx _ 39 (0, 0) hzX
            refine anyH_op 13 (by kernel_rfl) rfl rfl ?_
            refine wp_store_row 39 (.tmp 16) (.tmp 42) rfl V.heap.size (bxV T' ep' nn' Ab bd'.length cb) rfl rfl 39 zBx hzX (HSZ.out ..) (HZS.out ..) (bx_all _ _ _ _ _ _) ?_
            rw [← eR]
            clear eR
            refine ⟨Ext.of hR, ?_⟩
            conv => arg 8; whnf
            try simp only [Act.put, List.setIfInBounds_toArray, List.set_cons_succ, List.set_cons_zero]
            refine anyH_quiet 14 rfl (by kernel_rfl) (by kernel_rfl) (by kernel_rfl) (fun _ _ _ _ h => h) rfl rfl (Ext.of hR) ?_
            intro K hK
            conv => arg 2; whnf
            go_big_quiet_op
            go_big_quiet_on
            refine wpAnyH_done (by kernel_rfl) ?_ _
            go_wp2_with fail
            go_meet
            exact ⟨_, Ab, cb, rfl, rfl, hRb, own_base_le (own_off hob2 hRO (fun e => by have := own_lt hob _ e; omega)) hU.size, hR, hb0, blk_lt hRb⟩
          · refine op_value (op_allocP rfl zf zs2) _ (by conv => lhs; arg 2; whnf) ⟨Ext.of (hU.alloc hU.size _), ?_⟩
            try simp only [Act.put, List.setIfInBounds_toArray, List.set_cons_succ, List.set_cons_zero]
            obtain ⟨Y, eY⟩ : ∃ Y, Y = U.alloc (.cells zBx 39) := ⟨_, rfl⟩
            have hUY : Below U.heap.size U Y := by rw [eY]; exact (Below.refl _ _).alloc (Nat.le_refl _) _
            have hY : Below wr.heap.size wr Y := hU.trans (hUY.mono hU.size)
            have hzY : Blk Y U.heap.size 39 zBx := by rw [eY]; exact Blk.new _ _ _
            rw [← eY]
            have hsY : U.heap.size < Y.heap.size := by rw [eY]; simp
            clear eY
            refine anyH_op 8 (by kernel_rfl) rfl rfl ?_
            refine op_call (by kernel_rfl) _ (fun v => by conv => lhs; arg 2; whnf) ((HSE.out Y hY).mono ?_)
            rintro e V ⟨Ab, cb, rfl, hob, hb1⟩
            have hV : Below wr.heap.size wr V := hY.trans (hb1.mono hY.size)
            refine ⟨_, rfl, Ext.of hV, ?_⟩
            try simp only [Act.put, List.setIfInBounds_toArray, List.set_cons_succ, List.set_cons_zero]
            refine anyH_quiet 9 rfl (by kernel_rfl) (by kernel_rfl) (by kernel_rfl) (fun _ _ _ _ h => h) rfl rfl (Ext.of hV) ?_
            intro K hK
            conv => arg 2; whnf
            go_big_quiet_op
            go_big_quiet_on
            refine anyH_quiet 10 rfl (by kernel_rfl) (by kernel_rfl) (by kernel_rfl) (fun _ _ _ _ h => h) rfl rfl (Ext.of hV) ?_
            intro K hK
            conv => arg 2; whnf
            go_big_quiet_op
            go_big_quiet_on
            refine anyH_quiet 11 rfl (by kernel_rfl) (by kernel_rfl) (by kernel_rfl) (fun _ _ _ _ h => h) rfl rfl (Ext.of hV) ?_
            intro K hK
            conv => arg 2; whnf
            go_big_quiet_op
            go_big_quiet_on
            have hb0 : wr.heap.size ≤ U.heap.size := hU.size
            have hzV : Blk V U.heap.size 39 zBx := hzY.below hb1 hsY
            obtain ⟨R, eR⟩ : ∃ R, R = V.setRow U.heap.size (bxV T' ep' nn' Ab bd'.length cb) := ⟨_, rfl⟩
            have hVR : Below U.heap.size V R := by rw [eR]; exact below_setRowP _ _ _ (Nat.le_refl _)
            have hR : Below wr.heap.size wr R := hV.trans (hVR.mono hb0)
            have hRO : Only (fun i => i = U.heap.size) V R := by rw [eR]; exact setRow_only _ _ _
            have hRb : Blk R U.heap.size 39 (bxV T' ep' nn' Ab bd'.length cb) := by rw [eR]; exact setRow_heap _ _ zBx _ 39 (0, 0) hzV
            refine anyH_op 13 (by kernel_rfl) rfl rfl ?_
            refine wp_store_row 39 (.tmp 16) (.tmp 42) rfl U.heap.size (bxV T' ep' nn' Ab bd'.length cb) rfl rfl 39 zBx hzV (HSZ.out ..) (HZS.out ..) (bx_all _ _ _ _ _ _) ?_
            rw [← eR]
            clear eR
            refine ⟨Ext.of hR, ?_⟩
            conv => arg 8; whnf
            try simp only [Act.put, List.setIfInBounds_toArray, List.set_cons_succ, List.set_cons_zero]
            refine anyH_quiet 14 rfl (by kernel_rfl) (by kernel_rfl) (by kernel_rfl) (fun _ _ _ _ h => h) rfl rfl (Ext.of hR) ?_
            intro K hK
            conv => arg 2; whnf
            go_big_quiet_op
            go_big_quiet_on
            refine wpAnyH_done (by kernel_rfl) ?_ _
            go_wp2_with fail
            go_meet
            exact ⟨_, Ab, cb, rfl, rfl, hRb, own_base_le (own_off hob hRO (fun e => by have := own_base hob _ e; omega)) hY.size, hR, hb0, blk_lt hRb⟩
        case rest =>
          obtain ⟨b, Ab, cb, rfl, rfl, hbk, hob, hbel, hbge, hblt⟩ := hcut
          rcases HCS.out with ⟨hE, hnm, hT, hep, hnn, hbd⟩ | ⟨hE, hnm⟩
          · subst hE
            have hT := hT.symm
            subst hT
            have hep := hep.symm
            subst hep
            subst hnn
            have HBD := Lib.hid (show boI k t ep i g = ⟨t, ep, nnI i, bd'⟩ by rw [hbd]; rfl)
            have HBO := Lib.hid (boI_ok (k := k) (t := t) (ep := ep) (i := i) (g := g) HE.out HCK.out)
            have HN1 := Lib.hid hnm
            have HBK := Lib.hid hbk
            have HP1 := Lib.hid (HP.out.next hbel)
            obtain ⟨A9, c9, e9, hc9, _, r9⟩ := hob.rd
            injection e9 with e9a _ e9c
            subst e9a e9c
            have hal : Below wc.heap.size wc (wc.alloc (.cells (bxV t ep (nnI i) Ab bd'.length cb) 39)) := (Below.refl _ _).alloc (Nat.le_refl _) _
            have HP2 := Lib.hid (HP1.out.next hal)
            have HR2 := Lib.hid (show Rd (wc.alloc (.cells (bxV t ep (nnI i) Ab bd'.length cb) 39)) (wc.alloc (.cells (bxV t ep (nnI i) Ab bd'.length cb) 39)).heap.size Ab (byt bd') from (r9.below hal).more hal.size)
            have hap0 : ∀ ad, Ab = some ad → byt bd' ≠ [] → some ad.block ≠ u13.ownBlock := by
              intro ad1 ea _ h
              have h2 := own_new hob rfl ad1 ea
              have := own_lt HP.out.own _ h.symm
              omega
            have HAP := Lib.hid hap0
            have HC9 := Lib.hid hc9
            have HBV := Lib.hid (show (bxV t ep (nnI i) Ab bd'.length cb).size = 15 by unfold bxV; rw [List.size_toArray, bxL_len t ep Ab bd'.length cb (nnI_len i)])
            clear hnm hbd hbk hob hbel hbge hblt r9 hc9 hal hap0 HCS HSE HKA HNA HP
            go_wp2_with (first
              | (refine wpList_load_row rfl 39 (.tmp 16) rfl b rfl 39 (bxV t ep (nnI i) Ab bd'.length cb) (0, 0) _ HBK.out Tryz.underlying39 rfl (HSZ.out ..) ?_)
              | (refine wpList_valM rfl _ _ (run_oneG Tryz.underlying29 hib hb0 hb1x (by decide) (by decide) wc (bxV t ep (nnI i) Ab bd'.length cb) HBV.out (.tmp 48) rfl rfl) ?_)
              | (at_builtin; refine wpList_app _ rfl (.tmp 47) (.tmp 49) _ rfl W1.heap.size 39 ib (.agg zBx) 15 56 Tryz.underlying29 hib hb0 hb1x hb2x rfl (by decide) u13 us.length us.flatten rfl HP2.out.own _ (some ⟨wc.heap.size, 0, none⟩) 1 1 (bxL t ep (nnI i) Ab bd'.length cb) rfl (by rw [bxL_len _ _ _ _ _ (nnI_len i)]) (by exact rd_new wc (bxL t ep (nnI i) Ab bd'.length cb) 39 (0, 0)) (bx_oneCell _ _ _ _ _ _) (by have := HUL.out; omega) (by have := HUL.out; omega) HP2.out.bel.size ?_
                 intro v9 W9 hap
                 have HP9 := Lib.hid (PkI.box (b := ⟨t, ep, nnI i, bd'⟩) HP2.out hap HC9.out HR2.out HAP.out (by have := HBO.out; rw [HBD.out] at this; exact this))
                 clear hap))
            go_roundw
            case rel => exact ⟨i + 1, HLT.out, by go_num, ⟨_, by rw [HBS.out, HBD.out]; exact HP9.out⟩, fun _ => HN1.out⟩
            case measure => have := HLT.out; simp [intOf]; omega
          · subst hE
            have HN1 := Lib.hid hnm
            have HB9 := Lib.hid (HWB.out.trans ((HP.out.bel.trans (hbel.mono HP.out.bel.size)).mono HWB.out.size))
            clear hnm hbk hob hbel hbge hblt HCS HSE HKA HNA HP
            go_wp2_with fail
            try rw [Exit.noGoto_ret]
            refine bodyPost_ret (results_tmp2 rfl _ _ _) rfl ?_
            exact ⟨.inr (.inl ⟨HGN.out, by have := HLT.out; omega, HN1.out, rfl⟩), HB9.out⟩
      · obtain rfl : i = gs.length := by omega
        have r1 : ¬ (gs.length : Int) < (gs.length : Int) := by omega
        obtain ⟨Ax, cx, rfl, hcx, _, hrx⟩ := hP.own.rd hP.bv.bv
        have hlen : (boxes k t ep gs gs.length).length = gs.length := bosTo_len ..
        rw [hlen]
        rw [hlen] at hcx
        have HRX := Lib.hid hrx
        have HCX := Lib.hid hcx
        have HPB := Lib.hid hP.bel
        have HNM := Lib.hid hnm
        clear hP hnm hlt hi hrx hcx hlen
        go_wp2_with fail
        refine bodyPost_ret (results_tmp2 rfl _ _ _) rfl ?_
        exact ⟨.inr (.inr ⟨HGN.out, HNM.out, Ax, cx, rfl, HCX.out, HRX.out⟩), HWB.out.trans (HPB.out.mono HWB.out.size)⟩
end Go.Proofs.YtlkcpbmbhbogoaaGreatDoor
/- Contract: the document's Pack. -/
namespace Go.Proofs.YtlkcpbmbhbogoaaGreatDoor
set_option linter.unusedVariables false
set_option linter.unusedSimpArgs false
set_option maxRecDepth 100000
open Go.RowKit
set_option linter.unusedVariables false
set_option linter.unusedSimpArgs false
theorem idle2P {x y : Value} (h : isTok x = false) (h' : isTok y = false) : (!isTok x && (!isTok y && true)) = true := by rw [h, h']; rfl
def BxNewP (t : ByteArray) (ep : Nat) (nn body : List Nat) (base : Nat) (u : Value) (W : World) : Prop := ∃ A c b, u = .slice (some ⟨b, 0, none⟩) 1 1 ∧ Blk W b 39 (bxV t ep nn A body.length c) ∧ b < W.heap.size ∧ OwnB W base (.slice A body.length c) body
theorem BxNewP.next {t : ByteArray} {ep : Nat} {nn body : List Nat} {base : Nat} {u : Value} {W W' : World} (h : BxNewP t ep nn body base u W) (hb : Below W.heap.size W W') : BxNewP t ep nn body base u W' := by
  obtain ⟨A, c, b, e, h1, h2, h3⟩ := h
  exact ⟨A, c, b, e, h1.below hb h2, Nat.lt_of_lt_of_le h2 hb.size, h3.next hb⟩
theorem bxV_sizeP (t : ByteArray) (ep : Nat) (nn : List Nat) (A : Option Addr) (n c : Nat) (h : nn.length = 12) : (bxV t ep nn A n c).size = 15 := by unfold bxV; rw [List.size_toArray, bxL_len t ep A n c h]
set_option maxRecDepth 100000 in
set_option maxHeartbeats 32000000 in
theorem rpack_c (k : List Nat) (t : ByteArray) (ep : Nat) (A : Option Addr) (ca : Nat) (M : List Pc) (An : Option Addr) (cn N : Nat) (w : World) (hk : k.length = 32) (hkb : ∀ c ∈ k, c < 256) (ht : t.size ≤ 1000) (he : ep < 4294967296) (hr : RdP w w.heap.size A M) (hl : M.length ≤ 1000) (hok : ∀ p ∈ M, PcOk p ∧ p.s.size ≤ 1000000) (hcut : ∀ g ∈ cutG M, chkL g = 0) (hgN : (cutG M).length ≤ N) (hn : RdN w w.heap.size An (nns N)) (hN : N ≤ 100) (hq : QuartersAt w) :
    Calls Tryz.prog 17 #[.agg (vb k), .string t, .int .u32 (ep : Nat), .slice A M.length ca, .slice An N cn] w fun e w' => ∃ Ax c, e = .returned (.slice Ax (cutG M).length c) ∧ (cutG M).length ≤ c ∧ RdX w' Ax (boxes k t ep (cutG M) (cutG M).length) ∧ Below w.heap.size w w' := by
  obtain ⟨ib, hib, hb0, hb1x, hb2x⟩ := parts_of boxInfo
  obtain ⟨Z, hZ⟩ : ∃ Z, Z = w.alloc (Obj.cells (vb k) 23) := ⟨_, rfl⟩
  have hbz : Below w.heap.size w Z := by rw [hZ]; exact (Below.refl _ _).alloc (Nat.le_refl _) _
  have hkz : Blk Z w.heap.size 23 (vb k) := by rw [hZ]; exact Blk.new _ _ _
  have hsz : w.heap.size < Z.heap.size := by rw [hZ]; simp
  have HCU := Lib.hid (rcut_c A ca M Z ((Rd.below (show Rd w w.heap.size A (pcs M) from hr) hbz).more hbz.size) hl (fun p hp => (hok p hp).2))
  have HCO := Lib.hid hcut
  have HFL := Lib.hid (show ∀ g ∈ cutG M, ∀ p ∈ g, PcOk p ∧ p.s.size ≤ 1000000 from fun g hg p hp => hok p (by rw [← cut_flat M]; exact List.mem_flatten.2 ⟨g, hg, hp⟩))
  have HGL := Lib.hid (show ∀ g ∈ cutG M, g.length ≤ 1000 from fun g hg => by
    have h1 : g.length ≤ (cutG M).flatten.length := by
      obtain ⟨a, b, e⟩ := List.append_of_mem hg
      rw [e, List.flatten_append, List.flatten_cons, List.length_append, List.length_append]
      omega
    rw [cut_flat] at h1
    exact Nat.le_trans h1 hl)
  have HK := Lib.hid hk
  have HKB := Lib.hid hkb
  have HT := Lib.hid ht
  have HE := Lib.hid he
  have HNR := Lib.hid (show RdN Z Z.heap.size An (nns N) from (Rd.below (show Rd w w.heap.size An (nnC _) from hn) hbz).more hbz.size)
  have HNN := Lib.hid hN
  have HGN := Lib.hid hgN
  have HQ := Lib.hid (hq.next hbz)
  have HBZ := Lib.hid hbz
  have HKZ := Lib.hid hkz
  have HSS := Lib.hid hsz
  have HKL := Lib.hid (show (Tryz.prog.info? 23).map (·.size) = some (byt k).length by rw [byt_len, hk]; kernel_rfl)
  clear hk hkb ht he hr hok hn hN hq hbz hkz hsz hl hcut hgN
  generalize cutG M = gs at *
  go_enter Tryz.func17, Tryz.ntmps17
  go_upto_region 1 with (refine Go.Great.wpList_boxTo rfl 23 (.tmp 0) rfl (some 5) rfl w.heap.size rfl (vb k) rfl ?_)
  rw [← hZ]
  clear hZ
  go_upto_region 2 with (first
    | (go_at_call 14; (with_reducible refine HCU.out.mono ?_); rintro e W1 ⟨B, cB, rfl, hcb, hls, hb1⟩; have HB1 := Lib.hid hb1; have HLS := Lib.hid hls; clear hb1 hls hcb))
  clear HCU
  have HWB := Lib.hid (HBZ.out.trans (HB1.out.mono HBZ.out.size))
  have m0 : (gs.length : Int) ≤ 100 := by have := HNN.out; have := HGN.out; omega
  go_wp2_with fail
  go_loopw [12, 13, 34, 35] (fun lv iv u u' wr => (isTok u = false ∧ isTok u' = false) ∧ ∃ i : Nat, i ≤ gs.length ∧ iv = .int .i64 (i : Nat) ∧ ∃ us, PkI W1 wr lv us (boxes k t ep gs i)) (fun _ iv _ _ _ => gs.length - (intOf iv).toNat)
  case atStart => exact ⟨⟨rfl, rfl⟩, 0, Nat.zero_le _, rfl, [], OwnX.nil_ _ _, Below.refl _ _, BsQ.nil_ _ _⟩
  case round =>
    rename World => wr
    obtain ⟨htk, i, hi, rfl, us, hP⟩ := hrel
    have HTK := Lib.hid htk
    clear htk
    by_cases hlt : i < gs.length
    · have r1 : (i : Int) < (gs.length : Int) := by omega
      have m2 : (i : Int) ≤ 100 := by omega
      have r2 : (i : Int) < (N : Int) := by have := HGN.out; omega
      obtain ⟨ad, Ai, ci, rfl, had, hcell, hci, hri⟩ := (HLS.out.next hP.bel) i hlt
      obtain ⟨an, rfl, han, hatn⟩ := (show RdN wr Z.heap.size An (nns N) from Rd.below (Rd.below (show Rd Z Z.heap.size An (nnC _) from HNR.out) HB1.out) (hP.bel.mono HB1.out.size)).at_ (fun x hx => by
        unfold nns at hx
        obtain ⟨j, _, rfl⟩ := List.mem_map.1 hx
        exact nnI_len j) (i := i) (by rw [nns_len]; have := HGN.out; omega)
      rw [nns_at (by have := HGN.out; omega)] at hatn
      have hgm : gs.getD i [] ∈ gs := by rw [List.getD_eq_getElem?_getD, List.getElem?_eq_getElem hlt]; exact List.getElem_mem hlt
      have hck := HCO.out _ hgm
      have hgo := HFL.out _ hgm
      have hgl := HGL.out _ hgm
      have hbs : boxes k t ep gs (i + 1) = boxes k t ep gs i ++ [boI k t ep i (gs.getD i [])] := bosTo_succ ..
      obtain ⟨g, hg⟩ : ∃ g, g = gs.getD i [] := ⟨_, rfl⟩
      rw [← hg] at hcell hci hri hgm hck hgo hgl hbs
      have hqr := (HQ.out.next HB1.out).next hP.bel
      have HSE := Lib.hid (fun U (hb : Below wr.heap.size wr U) => show Calls Tryz.prog 9 #[.agg (vb k), .agg (vb (nnI i)), .string t, .int .u32 (ep : Int), .slice Ai g.length ci] U fun e w' => ∃ u, e = .returned u ∧ RBox t ep (nnI i) (boxL k (nnI i) t ep g) U.heap.size u w' ∧ Below U.heap.size U w' from
        rseal16_c k (nnI i) t ep Ai ci g U HK.out HKB.out (nnI_len i) (nnI_lt i) HT.out HE.out ((Rd.below (show Rd wr wr.heap.size Ai (pcs _) from hri) hb).more hb.size) (by omega) hgo hck)
      have hbd0 : boI k t ep i g = ⟨t, ep, nnI i, boxL k (nnI i) t ep g⟩ := rfl
      have HBO := Lib.hid (boI_ok (k := k) (t := t) (ep := ep) (i := i) (g := g) HE.out hck)
      have HP := Lib.hid hP
      have HLT := Lib.hid hlt
      have hk5 : Blk wr w.heap.size 23 (vb k) := (HKZ.out.below (HB1.out) HSS.out).below hP.bel (Nat.lt_of_lt_of_le HSS.out HB1.out.size)
      have HKA := Lib.hid (fun (W : World) (h : ∃ x : Ext wr, W = x.wd) => show AtA W ⟨w.heap.size, 0, none⟩ (byt k) by
        obtain ⟨x, rfl⟩ := h
        exact fun j u hu => x.cell (atA_blk hk5 j u hu))
      have HNA := Lib.hid (fun (W : World) (h : ∃ x : Ext wr, W = x.wd) => show AtA W (an.add (i * 12)) (byt (nnI i)) by
        obtain ⟨x, rfl⟩ := h
        exact fun j u hu => x.cell (hatn j u hu))
      have HNL := Lib.hid (show (Tryz.prog.info? 37).map (·.size) = some (byt (nnI i)).length by rw [byt_len, nnI_len]; kernel_rfl)
      have HUL := Lib.hid (show us.length ≤ 100 by rw [hP.bv.len]; unfold boxes; rw [bosTo_len]; omega)
      have c0 : ∀ x : Ext wr, x.wd.cell? (ad.add i) = some (.slice Ai g.length ci) := fun x => x.cell hcell
      have HBD := Lib.hid hbd0
      have HBS := Lib.hid hbs
      generalize boxL k (nnI i) t ep g = bd at *
      clear hP hlt hi hbs hg hck hgo hgl hgm hk5 hatn hri hci hqr had han hcell hbd0
      go_upto_region 6 with fail
      refine wp_region_loudTail 14 wr [34, 35] (fun kk u W => if kk = 34 then RBox t ep (nnI i) bd wr.heap.size u W else BxNewP t ep (nnI i) bd wr.heap.size u W) (by kernel_rfl) (by kernel_rfl) (by kernel_rfl) (by exact idle2P HTK.out.1 HTK.out.2) (fun kk u w1 w2 h hb => by
        by_cases h33 : kk = 34
        · rw [if_pos h33] at h ⊢; exact h.next hb
        · rw [if_neg h33] at h ⊢; exact h.next hb) (Below.refl _ _).drew ?_
      simp only [List.take_succ_cons, List.take_zero, List.drop_succ_cons, List.drop_zero]
      repeat (first
        | (refine wpLoud_call 34 rfl [] tok 9 (fun g' => #[.agg (vb k), .agg (vb (nnI i)), .string t, .int .u32 (ep : Int), .slice Ai g.length ci]) rfl (fun _ _ h => by cases h) rfl (fun g' w => by kernel_rfl) (fun g' y hg => by
            refine (HSE.out y.wd y.bel).mono ?_
            rintro e w' ⟨u, rfl, ⟨A5, c5, e5, ho⟩, hb⟩
            exact ⟨u, rfl, hb, ⟨A5, c5, e5, own_base_le ho y.bel.size⟩⟩) _ (by simp only [Act.put, List.setIfInBounds_toArray, List.set_cons_succ, List.set_cons_zero]; rfl) ?_)
        | (refine wpLoud_makeG 35 rfl rfl [34] rfl (fun _ _ h => by cases h) rfl (fun g' x h => by
            obtain ⟨A5, c5, e5, ho⟩ : RBox t ep (nnI i) bd wr.heap.size (g' 34) x.wd := h 34 (by simp)
            exact ⟨_, _, run_oneG Tryz.underlying29 hib hb0 hb1x (by decide) (by decide) x.wd (bxV t ep (nnI i) A5 bd.length c5) (bxV_sizeP _ _ _ _ _ _ (nnI_len i)) (.tmp 34) rfl e5, (Below.refl _ _).alloc (Nat.le_refl _) _, ⟨A5, c5, x.wd.heap.size, rfl, Blk.new _ _ _, (by simp), ho.next ((Below.refl _ _).alloc (Nat.le_refl _) _)⟩⟩) _ (by simp only [Act.put, List.setIfInBounds_toArray, List.set_cons_succ, List.set_cons_zero]; rfl) ?_)
        | (refine wpLoud_plain rfl rfl rfl ?_; intro K hK; refine quiet_loadA 23 (.tmp 5) rfl ⟨w.heap.size, 0, none⟩ rfl (byt k) _ HKA.out Tryz.underlying23 rfl HKL.out _ (by simp only [Act.put, List.setIfInBounds_toArray, List.set_cons_succ, List.set_cons_zero]; rfl) ?_; go_big_quiet_on)
        | (refine wpLoud_plain rfl rfl rfl ?_; intro K hK; refine quiet_loadA 37 (.tmp 26) rfl (an.add (i * 12)) rfl (byt (nnI i)) _ HNA.out Tryz.underlying37 rfl HNL.out _ (by simp only [Act.put, List.setIfInBounds_toArray, List.set_cons_succ, List.set_cons_zero]; rfl) ?_; go_big_quiet_on)
        | (refine wpLoud_plain rfl rfl rfl ?_; intro K hK; go_big_quiet_op; go_big_quiet_on))
      refine wpLoud_end [34, 35] (by rfl) ?_
      intro gg z hg
      have h1 : BxNewP t ep (nnI i) bd wr.heap.size (gg 35) z.wd := hg 35 (by simp)
      have h75 : RBox t ep (nnI i) bd wr.heap.size (gg 34) z.wd := hg 34 (by simp)
      have hz := z.bel
      generalize z.wd = W7 at *
      simp only [fill, Act.put, List.setIfInBounds_toArray, List.set_cons_succ, List.set_cons_zero]
      obtain ⟨Ay, cy, e75, _⟩ := h75
      have htk75 : isTok (gg 34) = false := by rw [e75]; rfl
      have HTK7 := Lib.hid (show isTok (gg 34) = false ∧ isTok (gg 35) = false from ⟨htk75, by obtain ⟨_, _, _, e76, _⟩ := h1; rw [e76]; rfl⟩)
      generalize gg 34 = v75 at *
      generalize gg 35 = v76 at *
      obtain ⟨Ab, cb, b1, rfl, hbk, hb1, hob⟩ := h1
      have HP7 := Lib.hid (HP.out.next hz)
      have hap0 : ∀ ad, Ab = some ad → byt bd ≠ [] → some ad.block ≠ u12.ownBlock := by
        intro ad1 ea _ h
        have h2 := own_new hob rfl ad1 ea
        have := own_lt HP.out.own _ h.symm
        omega
      have HAP := Lib.hid hap0
      obtain ⟨A9, c9, e9, hc9, _, r9⟩ := hob.rd
      injection e9 with e9a _ e9c
      subst e9a e9c
      have HR9 := Lib.hid r9
      have HC9 := Lib.hid hc9
      have HRB := Lib.hid (show Rd W7 (b1 + 1) (some ⟨b1, 0, none⟩) (bxL t ep (nnI i) Ab bd.length cb) from fun _ => ⟨_, rfl, Nat.lt_succ_self _, atA_blk hbk⟩)
      clear hg hbk hb1 hob hz e75 htk75 r9 hc9 HSE HKA HNA HP hap0 c0
      refine wpList_app _ rfl (.tmp 22) (.tmp 35) _ rfl W1.heap.size 39 ib (.agg zBx) 15 56 Tryz.underlying29 hib hb0 hb1x hb2x rfl (by decide) u12 us.length us.flatten rfl HP7.out.own (b1 + 1) (some ⟨b1, 0, none⟩) 1 1 (bxL t ep (nnI i) Ab bd.length cb) rfl (by rw [bxL_len _ _ _ _ _ (nnI_len i)]) HRB.out (bx_oneCell _ _ _ _ _ _) (by have := HUL.out; omega) (by have := HUL.out; omega) HP7.out.bel.size ?_
      intro v9 W9 hap
      have HP9 := Lib.hid (PkI.box (b := ⟨t, ep, nnI i, bd⟩) HP7.out hap HC9.out HR9.out HAP.out (by have := HBO.out; rw [HBD.out] at this; exact this))
      clear hap HP7 HR9 HC9 HAP HRB
      simp only [Act.put, List.setIfInBounds_toArray, List.set_cons_succ, List.set_cons_zero]
      go_wp2_with fail
      go_roundw
      case rel => exact ⟨HTK7.out, i + 1, HLT.out, by go_num, _, by rw [HBS.out, HBD.out]; exact HP9.out⟩
      case measure => have := HLT.out; simp [intOf]; omega
    · obtain rfl : i = gs.length := by omega
      have r1 : ¬ (gs.length : Int) < (gs.length : Int) := by omega
      obtain ⟨Ax, cx, rfl, hcx, _, hrx⟩ := hP.own.rd hP.bv.bv
      have hlen : (boxes k t ep gs gs.length).length = gs.length := bosTo_len ..
      rw [hlen]
      rw [hlen] at hcx
      have HRX := Lib.hid hrx
      have HCX := Lib.hid hcx
      have HPB := Lib.hid hP.bel
      clear hP hlt hi hrx hcx hlen
      go_wp2_with fail
      go_ret
      exact ⟨Ax, cx, rfl, HCX.out, HRX.out, HWB.out.trans (HPB.out.mono HWB.out.size)⟩
end Go.Proofs.YtlkcpbmbhbogoaaGreatDoor
/- BlockPacks, walked. -/
namespace Go.Proofs.YtlkcpbmbhbogoaaGreatDoor
set_option linter.unusedVariables false
set_option linter.unusedSimpArgs false
set_option maxRecDepth 100000
open Go.RowKit
set_option linter.unusedVariables false
set_option linter.unusedSimpArgs false
/-- what stays -/
structure Kp1 (w W : World) (k : List Nat) (A : Option Addr) (l : List Pc) : Prop where
  bel : Below w.heap.size w W
  kA : Blk W w.heap.size 23 (vb k)
  sz : w.heap.size < W.heap.size
  rl : RdP W W.heap.size A l
  q : QuartersAt W
theorem Kp1.next {w W W' : World} {k : List Nat} {A : Option Addr} {l : List Pc} (h : Kp1 w W k A l) (hb : Below W.heap.size W W') : Kp1 w W' k A l :=
  ⟨h.bel.trans (hb.mono h.bel.size), h.kA.below hb h.sz, Nat.lt_of_lt_of_le h.sz hb.size, (Rd.below (show Rd W W.heap.size A (pcs _) from h.rl) hb).more hb.size, h.q.next hb⟩
set_option maxRecDepth 100000 in
set_option maxHeartbeats 32000000 in
theorem packs_c (k : List Nat) (t : ByteArray) (ep : Nat) (A : Option Addr) (ca : Nat) (l : List Pc) (n : Nat) (w : World) (hk : k.length = 32) (hkb : ∀ c ∈ k, c < 256) (ht : t.size ≤ 9223372036854775807) (he : ep < 4294967296) (hr : RdP w w.heap.size A l) (hc : l.length ≤ ca) (h1 : l.length ≤ 9223372036854775807) (hl : ∀ p ∈ l, PcOk p ∧ p.s.size ≤ 9223372036854775807) (hn : n < 256) (hq : QuartersAt w) :
    Calls Tryz.prog 4 #[.agg (vb k), .string t, .int .u32 (ep : Nat), .slice A l.length ca, .int .u8 (n : Nat)] w fun e w' => e = .returned (.bool true) ∧ Below w.heap.size w w' := by
  obtain ⟨Z, hZ⟩ : ∃ Z, Z = w.alloc (Obj.cells (vb k) 23) := ⟨_, rfl⟩
  have hbz : Below w.heap.size w Z := by rw [hZ]; exact (Below.refl _ _).alloc (Nat.le_refl _) _
  have hkz : Blk Z w.heap.size 23 (vb k) := by rw [hZ]; exact Blk.new _ _ _
  have hsz : w.heap.size < Z.heap.size := by rw [hZ]; simp
  have HS := Lib.hid (show Kp1 w Z k A l from ⟨hbz, hkz, hsz, (Rd.below (show Rd w w.heap.size A (pcs l) from hr) hbz).more hbz.size, hq.next hbz⟩)
  have HKS := Lib.hid (keySz hk)
  have HGC := Lib.hid (show Calls Tryz.prog 7 #[.slice A l.length ca, .int .i64 40] Z (fun e w' => e = .returned (.bool (greatB l 40)) ∧ Z = w') from great_c Z.heap.size A ca l 40 Z HS.out.rl h1 (by decide) (fun p hp => (hl p hp).2))
  have hzz := Lib.hid hZ
  clear hbz hkz hsz hr hq
  cases hgr : greatB l 40 with
  | true =>
    rw [hgr] at HGC
    have HAW := Lib.hid (awake17_c Z)
    have HBZ := Lib.hid HS.out.bel
    clear hl hk hkb hgr hZ
    go_enter Tryz.func4, Tryz.ntmps4
    go_upto_region 1 with (refine Go.Great.wpList_boxTo rfl 23 (.tmp 0) rfl (some 5) rfl w.heap.size rfl (vb k) rfl ?_)
    rw [← hzz.out]
    clear hzz
    go_wp2_with (first
      | (go_at_call 7; (with_reducible refine HGC.out.mono ?_); rintro e W0 ⟨rfl, rfl⟩)
      | (go_at_call 5; (with_reducible refine HAW.out.mono ?_); rintro e W9 ⟨rfl, hb⟩; have HB9 := Lib.hid (HBZ.out.trans (hb.mono HBZ.out.size)); clear hb))
    go_ret
    exact ⟨rfl, HB9.out⟩
  | false =>
  rw [hgr] at HGC
  obtain ⟨hnum, hsz⟩ := greatB_no hgr
  by_cases htl : 100 < t.size
  · have q1 : (100 : Int) < (t.size : Int) := by omega
    have HAW := Lib.hid (awake17_c Z)
    have HBZ := Lib.hid HS.out.bel
    clear hl hk hkb hgr hZ htl hnum hsz
    go_enter Tryz.func4, Tryz.ntmps4
    go_upto_region 1 with (refine Go.Great.wpList_boxTo rfl 23 (.tmp 0) rfl (some 5) rfl w.heap.size rfl (vb k) rfl ?_)
    rw [← hzz.out]
    clear hzz
    go_wp2_with (first
      | (go_at_call 7; (with_reducible refine HGC.out.mono ?_); rintro e W0 ⟨rfl, rfl⟩)
      | (go_at_call 5; (with_reducible refine HAW.out.mono ?_); rintro e W9 ⟨rfl, hb⟩; have HB9 := Lib.hid (HBZ.out.trans (hb.mono HBZ.out.size)); clear hb))
    go_ret
    exact ⟨rfl, HB9.out⟩
  · have q1 : ¬ (100 : Int) < (t.size : Int) := by omega
    have hts : t.size ≤ 100 := by omega
    have hok : ∀ p ∈ l, PcOk p ∧ p.s.size ≤ 1000000 := fun p hp => ⟨(hl p hp).1, by have := hsz p hp; omega⟩
    have hMk : ∀ p ∈ mergeL l, PcOk p ∧ p.s.size ≤ 1000000 := fun p hp => hok p (merge_sub l p hp)
    have hMl : (mergeL l).length ≤ 40 := Nat.le_trans (merge_len l) hnum
    have hco := cut_ok (mergeL l) (merge_sorted l) (fun p hp => ((mem_merge l p).1 hp).2.1)
    have hgo : ∀ g ∈ cutG (mergeL l), ∀ p ∈ g, PcOk p ∧ p.s.size ≤ 1000000 := fun g hg p hp => hMk p (by rw [← cut_flat (mergeL l)]; exact List.mem_flatten.2 ⟨g, hg, hp⟩)
    have hgl : ∀ g ∈ cutG (mergeL l), g.length ≤ 40 := fun g hg => by
      have h2 : g.length ≤ (cutG (mergeL l)).flatten.length := by
        obtain ⟨a, b, e⟩ := List.append_of_mem hg
        rw [e, List.flatten_append, List.flatten_cons, List.length_append, List.length_append]
        omega
      rw [cut_flat] at h2
      exact Nat.le_trans h2 hMl
    have HRM := Lib.hid (rmerge_c A ca l Z HS.out.rl (by omega) (fun p hp => ⟨(hok p hp).1, by have := (hok p hp).2; omega⟩))
    have HCU := Lib.hid (fun W (h : Kp1 w W k A l) => cutS_c A ca l W h.rl hc (by omega) (fun p hp => ⟨(hok p hp).1, by have := (hok p hp).2; omega⟩))
    have HRC := Lib.hid (fun W Am cm (h : RdP W W.heap.size Am (mergeL l)) => rcut_c Am cm (mergeL l) W h (by omega) (fun p hp => (hMk p hp).2))
    have HMG := Lib.hid (merge_groups l)
    obtain ⟨n6, hn6⟩ : ∃ n6, n6 = n % 6 := ⟨_, rfl⟩
    have HPK := Lib.hid (fun W An cn (h : Kp1 w W k A l) (hnr : RdN W W.heap.size An (nns n6)) => pack_c k t ep A ca l An cn n6 W hk hkb (by omega) he h.rl hc (by omega) hok hnr (by omega) h.q)
    have HRP := Lib.hid (fun W Am cm An cn (hm : RdP W W.heap.size Am (mergeL l)) (h : Kp1 w W k A l) (hgN : (cutG (mergeL l)).length ≤ n6) (hnr : RdN W W.heap.size An (nns n6)) => rpack_c k t ep Am cm (mergeL l) An cn n6 W hk hkb (by omega) he hm (by omega) hMk (fun g hg => (hco g hg).1) hgN hnr (by omega) h.q)
    have HCO := Lib.hid hco
    have HGO := Lib.hid hgo
    have HGL := Lib.hid hgl
    have HTS := Lib.hid hts
    have HK := Lib.hid (And.intro hk hkb)
    have HE := Lib.hid he
    have HML := Lib.hid hMl
    have HCF := Lib.hid (show (cutG (mergeL l)).length ≤ 40 by
      have h2 : ∀ gs : List (List Pc), (∀ g ∈ gs, 0 < g.length) → gs.length ≤ gs.flatten.length := by
        intro gs
        induction gs with
        | nil => intro _; simp
        | cons g gs ih =>
          intro h
          have h3 := h g (List.mem_cons_self ..)
          have h4 := ih (fun g hg => h g (List.mem_cons_of_mem _ hg))
          rw [List.flatten_cons, List.length_append, List.length_cons]
          omega
      have h5 := h2 _ (fun g hg => (hco g hg).2)
      rw [cut_flat] at h5
      omega)
    have f1 : (n : Int) % 6 = (n6 : Int) := by omega
    have f2 : Int.tmod (n : Int) 6 = (n6 : Int) := by rw [Int.tmod_eq_emod_of_nonneg (by omega)]; exact f1
    have f3 : (0 : Int) ≤ (n6 : Int) := by omega
    have f4 : (n6 : Int) ≤ 5 := by omega
    clear hk hkb he hl hok hMk hMl hco hgo hgl hnum hsz htl hts hgr hZ hn6 h1 hc ht
    generalize hgs : cutG (mergeL l) = gs at *
    clear hgs
    generalize mergeL l = M at *
    go_enter Tryz.func4, Tryz.ntmps4
    go_upto_region 1 with (refine Go.Great.wpList_boxTo rfl 23 (.tmp 0) rfl (some 5) rfl w.heap.size rfl (vb k) rfl ?_)
    rw [← hzz.out]
    clear hzz
    go_upto_region 5 with (first
      | (go_at_call 7; (with_reducible refine HGC.out.mono ?_); rintro e W0 ⟨rfl, rfl⟩)
      | (go_at_call 8; (with_reducible refine HRM.out.mono ?_); rintro e W1 ⟨v, rfl, ho, hb⟩; obtain ⟨Am, cm, rfl, _, _, hrm⟩ := ho.rd; have HS1 := Lib.hid (HS.out.next hb); have HRM1 := Lib.hid hrm; have HCU1 := Lib.hid (HCU.out W1 HS1.out); clear ho hb hrm)
      | (go_at_call 13; (with_reducible refine HCU1.out.mono ?_); rintro e W2 ⟨B, cB, rfl, hcb, hcb2, hls, hb⟩; have HS2 := Lib.hid (HS1.out.next hb); have HLS := Lib.hid hls; have HCB := Lib.hid (And.intro hcb hcb2); have HRM2 := Lib.hid (show RdP W2 W2.heap.size Am M from (Rd.below (show Rd W1 W1.heap.size Am (pcs _) from HRM1.out) hb).more hb.size); have HRC1 := Lib.hid (HRC.out W2 Am cm HRM2.out); clear hcb hcb2 hls hb)
      | (go_at_call 14; (with_reducible refine HRC1.out.mono ?_); rintro e W3 ⟨C, cC, rfl, hcc, hlc, hb⟩; have HS3 := Lib.hid (HS2.out.next hb); have HL3 := Lib.hid (HLS.out.next hb); have HLC := Lib.hid hlc; have HRM3 := Lib.hid (show RdP W3 W3.heap.size Am M from (Rd.below (show Rd W2 W2.heap.size Am (pcs _) from HRM2.out) hb).more hb.size); clear hcc hlc hb))
    clear HGC HRM HCU HRC HCU1 HRC1 HS HS1 HS2 HRM1 HRM2 HLS
    have m0 : (gs.length : Int) ≤ 40 := by have := HCF.out; omega
    go_wp2_with fail
    go_loopw [14] (fun iv wr => ∃ i : Nat, i ≤ gs.length ∧ iv = .int .i64 (i : Nat) ∧ Below W3.heap.size W3 wr) (fun iv _ => gs.length - (intOf iv).toNat)
    case atStart => exact ⟨0, Nat.zero_le _, rfl, Below.refl _ _⟩
    case round =>
      rename World => wr
      obtain ⟨i, hi, rfl, hb⟩ := hrel
      have HB := Lib.hid hb
      clear hb
      by_cases hlt : i < gs.length
      · have r1 : (i : Int) < (gs.length : Int) := by omega
        have m2 : (i : Int) ≤ 40 := by omega
        obtain ⟨ad, Ai, ci, rfl, _, hcell, hci, hri⟩ := (HL3.out.next HB.out) i hlt
        obtain ⟨ac, Aj, cj, rfl, _, hcelj, hcj, hrj⟩ := (HLC.out.next HB.out) i hlt
        have hgm : gs.getD i [] ∈ gs := by rw [List.getD_eq_getElem?_getD, List.getElem?_eq_getElem hlt]; exact List.getElem_mem hlt
        have hgl := HGL.out _ hgm
        obtain ⟨g, hg⟩ : ∃ g, g = gs.getD i [] := ⟨_, rfl⟩
        rw [← hg] at hcell hcelj hri hrj hgl
        have HSM := Lib.hid (fun W (hb : Below wr.heap.size wr W) => rsameP_c W.heap.size W.heap.size Ai Aj ci cj g W ((Rd.below (show Rd wr wr.heap.size Ai (pcs _) from hri) hb).more hb.size) ((Rd.below (show Rd wr wr.heap.size Aj (pcs _) from hrj) hb).more hb.size) (by omega))
        have c0 : ∀ x : Ext wr, x.wd.cell? (ad.add i) = some (.slice Ai g.length ci) := fun x => x.cell hcell
        have c1 : ∀ x : Ext wr, x.wd.cell? (ac.add i) = some (.slice Aj g.length cj) := fun x => x.cell hcelj
        have HLT := Lib.hid hlt
        clear hcell hcelj hri hrj hgl hg hgm hlt hi hci hcj
        go_upto_region 10 with fail
        refine wp_region_loud wr [] (fun _ _ _ => True) (by kernel_rfl) (by kernel_rfl) (by kernel_rfl) (by kernel_rfl) (fun _ _ _ _ h _ => h) (Below.refl _ _).drew ?_
        repeat (first
          | (refine wpLoud_call 55 rfl [] (.bool true) 11 (fun g' => #[.slice Ai g.length ci, .slice Aj g.length cj]) rfl (fun _ _ h => by cases h) rfl (fun g' w => by kernel_rfl) (fun g' y hg => by
              refine (HSM.out y.wd y.bel).mono ?_
              rintro e w' ⟨rfl, q, rfl⟩
              exact ⟨_, rfl, belowDrewN q (Below.refl _ _), rfl⟩) _ (by simp only [Act.put, List.setIfInBounds_toArray, List.set_cons_succ, List.set_cons_zero]; rfl) ?_)
          | (refine wpLoud_plain rfl rfl rfl ?_; intro K hK; go_big_quiet_op; go_big_quiet_on))
        refine wpLoud_end [] (by rfl) ?_
        intro gg z hg
        have HBZ9 := Lib.hid (HB.out.trans (z.bel.mono HB.out.size))
        generalize z.wd = Y at *
        simp only [fill, Act.put, List.setIfInBounds_toArray, List.set_cons_succ, List.set_cons_zero]
        clear hg c0 c1
        go_wp2_with fail
        go_roundw
        case rel => exact ⟨i + 1, HLT.out, by go_num, HBZ9.out⟩
        case measure => have := HLT.out; simp [intOf]; omega
      · obtain rfl : i = gs.length := by omega
        have r1 : ¬ (gs.length : Int) < (gs.length : Int) := by omega
        have HS4 := Lib.hid (HS3.out.next HB.out)
        have HRM4 := Lib.hid (show RdP wr wr.heap.size Am M from (Rd.below (show Rd W3 W3.heap.size Am (pcs _) from HRM3.out) HB.out).more HB.out.size)
        have HNC := Lib.hid (nonces_c n6 wr (by omega))
        clear HL3 HLC HS3 HRM3 HB hlt hi
        go_upto_region 13 with (go_at_call 6; (with_reducible refine HNC.out.mono ?_); rintro e W5 ⟨vn, rfl, hon, hbn⟩; obtain ⟨An, cn, rfl, _, _, hrn⟩ := hon.rd; have HS5 := Lib.hid (HS4.out.next hbn); have HNR := Lib.hid hrn; have HRM5 := Lib.hid (show RdP W5 W5.heap.size Am M from (Rd.below (show Rd wr wr.heap.size Am (pcs _) from HRM4.out) hbn).more hbn.size); clear hon hbn hrn)
        rw [nns_len]
        clear HS4 HRM4 HNC f1 f2
        have hpk := HPK.out W5 An cn HS5.out HNR.out
        have hbad : ∀ E : Int, (∀ (B : Option Addr) (c : Nat), True) → (Calls Tryz.prog 15 #[.agg (vb k), .string t, .int .u32 (ep : Nat), .slice A l.length ca, .slice An n6 cn] W5 fun e w' => e = .returned (.tuple #[.slice none 0 0, .int .i64 E]) ∧ Below W5.heap.size W5 w') → True := fun _ _ _ => trivial
        clear hbad
        by_cases hcA : n6 < gs.length
        · have qA : (n6 : Int) < (gs.length : Int) := by omega
          have hp2 : Calls Tryz.prog 15 #[.agg (vb k), .string t, .int .u32 (ep : Nat), .slice A l.length ca, .slice An n6 cn] W5 fun e w' => e = .returned (.tuple #[.slice none 0 0, .int .i64 14]) ∧ Below W5.heap.size W5 w' := by
            refine hpk.mono ?_
            rintro e w' ⟨h, hb⟩
            rcases h with ⟨_, e1⟩ | ⟨h, _⟩ | ⟨h, _⟩
            · exact ⟨e1, hb⟩
            · omega
            · omega
          have HP2 := Lib.hid hp2
          clear hpk hp2 hcA
          go_wp2_with (first
            | (refine wpList_load_row rfl 23 (.tmp 5) rfl w.heap.size rfl 23 (vb k) (0, 0) _ HS5.out.kA Tryz.underlying23 rfl HKS.out ?_)
            | (go_at_call 15; (with_reducible refine HP2.out.mono ?_); rintro e W6 ⟨rfl, hb⟩; have HB6 := Lib.hid (HS5.out.bel.trans (hb.mono HS5.out.bel.size)); have HAW := Lib.hid (awake17_c W6); clear hb)
            | (go_at_call 5; (with_reducible refine HAW.out.mono ?_); rintro e W9 ⟨rfl, hb⟩; have HB9 := Lib.hid (HB6.out.trans (hb.mono HB6.out.size)); clear hb))
          go_ret
          exact ⟨rfl, HB9.out⟩
        · have qA : ¬ (n6 : Int) < (gs.length : Int) := by omega
          have hgn : gs.length ≤ n6 := by omega
          clear hcA
          by_cases hcB : 0 < gs.length ∧ nameB t = false
          · obtain ⟨hB1, hB2⟩ := hcB
            have qB : (0 : Int) < (gs.length : Int) := by omega
            have hp2 : Calls Tryz.prog 15 #[.agg (vb k), .string t, .int .u32 (ep : Nat), .slice A l.length ca, .slice An n6 cn] W5 fun e w' => e = .returned (.tuple #[.slice none 0 0, .int .i64 1]) ∧ Below W5.heap.size W5 w' := by
              refine hpk.mono ?_
              rintro e w' ⟨h, hb⟩
              rcases h with ⟨h, _⟩ | ⟨_, _, _, e1⟩ | ⟨_, h, _⟩
              · omega
              · exact ⟨e1, hb⟩
              · rw [h hB1] at hB2; cases hB2
            have HP2 := Lib.hid hp2
            have HNM := Lib.hid (fun W => show Calls Tryz.prog 16 #[.string t] W fun e w' => e = .returned (.bool false) ∧ W = w' by
              have h := rname_c t W (by have := HTS.out; omega)
              rw [hB2] at h
              exact h)
            clear hpk hp2 hB1 hB2 hgn
            go_wp2_with (first
              | (refine wpList_load_row rfl 23 (.tmp 5) rfl w.heap.size rfl 23 (vb k) (0, 0) _ HS5.out.kA Tryz.underlying23 rfl HKS.out ?_)
              | (go_at_call 15; (with_reducible refine HP2.out.mono ?_); rintro e W6 ⟨rfl, hb⟩; have HB6 := Lib.hid (HS5.out.bel.trans (hb.mono HS5.out.bel.size)); have HAW := Lib.hid (awake17_c W6); clear hb)
              | (go_at_call 16; (with_reducible refine (HNM.out W6).mono ?_); rintro e W7 ⟨rfl, rfl⟩)
              | (go_at_call 5; (with_reducible refine HAW.out.mono ?_); rintro e W9 ⟨rfl, hb⟩; have HB9 := Lib.hid (HB6.out.trans (hb.mono HB6.out.size)); clear hb))
            go_ret
            exact ⟨rfl, HB9.out⟩
          · have hnm : 0 < gs.length → nameB t = true := fun h => by
              cases hn : nameB t with
              | true => rfl
              | false => exact absurd ⟨h, hn⟩ hcB
            have hp2 : Calls Tryz.prog 15 #[.agg (vb k), .string t, .int .u32 (ep : Nat), .slice A l.length ca, .slice An n6 cn] W5 fun e w' => ∃ Ax cx, e = .returned (.tuple #[.slice Ax gs.length cx, .int .i64 0]) ∧ RdX w' Ax (boxes k t ep gs gs.length) ∧ Below W5.heap.size W5 w' := by
              refine hpk.mono ?_
              rintro e w' ⟨h, hb⟩
              rcases h with ⟨h, _⟩ | ⟨_, h1, h2, _⟩ | ⟨_, _, Ax, cx, e1, _, h3⟩
              · omega
              · rw [hnm h1] at h2; cases h2
              · exact ⟨Ax, cx, e1, h3, hb⟩
            have HP2 := Lib.hid hp2
            have HNMT := Lib.hid hnm
            have HGN := Lib.hid hgn
            clear hpk hp2 hcB hnm hgn
            go_upto_region 16 with (first
              | (refine wpList_load_row rfl 23 (.tmp 5) rfl w.heap.size rfl 23 (vb k) (0, 0) _ HS5.out.kA Tryz.underlying23 rfl HKS.out ?_)
              | (go_at_call 15; (with_reducible refine HP2.out.mono ?_); rintro e W6 ⟨Ax, cx, rfl, hrx, hb⟩; have HS6 := Lib.hid (HS5.out.next hb); have HX6 := Lib.hid hrx; have HNR6 := Lib.hid (show RdN W6 W6.heap.size An (nns n6) from (Rd.below (show Rd W5 W5.heap.size An (nnC _) from HNR.out) hb).more hb.size); have HRM6 := Lib.hid (show RdP W6 W6.heap.size Am M from (Rd.below (show Rd W5 W5.heap.size Am (pcs _) from HRM5.out) hb).more hb.size); clear hrx hb))
            clear HP2 HNR HRM5 HS5
            have e74 : decide (n6 < gs.length) = false := decide_eq_false (by have := HGN.out; omega)
            rw [e74]
            clear e74
            go_cut [92] from 85 to 92 (fun b wx => b = .bool false ∧ W6 = wx)
            case first =>
              by_cases h0 : 0 < gs.length
              · have qB : (0 : Int) < (gs.length : Int) := by omega
                have HNM := Lib.hid (fun W => show Calls Tryz.prog 16 #[.string t] W fun e w' => e = .returned (.bool true) ∧ W = w' by
                  have h := rname_c t W (by have := HTS.out; omega)
                  rw [HNMT.out h0] at h
                  exact h)
                clear h0
                go_wp2_with (go_at_call 16; (with_reducible refine (HNM.out W6).mono ?_); rintro e W7 ⟨rfl, rfl⟩)
                go_meet
                exact ⟨rfl, rfl⟩
              · have qB : ¬ (0 : Int) < (gs.length : Int) := by omega
                clear h0
                go_wp2_with fail
                go_meet
                exact ⟨rfl, rfl⟩
            case rest =>
              obtain ⟨rfl, rfl⟩ := hcut
              have HRPC := Lib.hid (HRP.out W6 Am cm An cn HRM6.out HS6.out HGN.out HNR6.out)
              clear HRP HPK
              go_wp2_with (first
                | (refine wpList_load_row rfl 23 (.tmp 5) rfl w.heap.size rfl 23 (vb k) (0, 0) _ HS6.out.kA Tryz.underlying23 rfl HKS.out ?_)
                | (go_at_call 17; (with_reducible refine HRPC.out.mono ?_); rintro e W7 ⟨Ay, cy, rfl, _, hry, hb⟩; have HS7 := Lib.hid (HS6.out.next hb); have HX7 := Lib.hid (HX6.out.next hb); have HY7 := Lib.hid hry; have HRM7 := Lib.hid (show RdP W7 W7.heap.size Am M from (Rd.below (show Rd W6 W6.heap.size Am (pcs _) from HRM6.out) hb).more hb.size); clear hry hb))
              clear HS6 HX6 HNR6 HRM6 HRPC
              have HLB := Lib.hid (show (boxes k t ep gs gs.length).length = gs.length from bosTo_len ..)
              go_loopw [19] (fun iv wr => ∃ i : Nat, i ≤ gs.length ∧ iv = .int .i64 (i : Nat) ∧ Below W7.heap.size W7 wr) (fun iv _ => gs.length - (intOf iv).toNat)
              case atStart => exact ⟨0, Nat.zero_le _, rfl, Below.refl _ _⟩
              case round =>
                rename World => wr
                obtain ⟨i, hi, rfl, hb⟩ := hrel
                have HB := Lib.hid hb
                clear hb
                by_cases hlt : i < gs.length
                · have r1 : (i : Int) < (gs.length : Int) := by omega
                  have m2 : (i : Int) ≤ 40 := by omega
                  obtain ⟨ad, Ai, ci, rfl, _, hat, _, hri, hok⟩ := (HX7.out.next HB.out).box (i := i) (by rw [HLB.out]; exact hlt)
                  obtain ⟨ac, Aj, cj, rfl, _, hat2, _, hrj, _⟩ := (HY7.out.next HB.out).box (i := i) (by rw [HLB.out]; exact hlt)
                  have hbl : ((boxes k t ep gs gs.length).getD i bo0).body.length ≤ 1000000 := by
                    unfold boxes
                    rw [bosTo_at hlt]
                    have hgm : gs.getD i [] ∈ gs := by rw [List.getD_eq_getElem?_getD, List.getElem?_eq_getElem hlt]; exact List.getElem_mem hlt
                    have := boxL_le5 k (nnI i) t ep (gs.getD i []) (HCO.out _ hgm).1 (fun p hp => (HGO.out _ hgm p hp).1)
                    show (boxL k (nnI i) t ep (gs.getD i [])).length ≤ 1000000
                    omega
                  generalize (boxes k t ep gs gs.length).getD i bo0 = b at *
                  obtain ⟨bt, be, bn, bd⟩ := b
                  have hok2 := hok
                  simp only at hat hat2 hri hrj hbl
                  have HSX := Lib.hid (fun W (hb : Below wr.heap.size wr W) => show Calls Tryz.prog 18 #[.agg (bxV bt be bn Ai bd.length ci), .agg (bxV bt be bn Aj bd.length cj)] W fun e w' => e = .returned (.bool true) ∧ Below W.heap.size W w' by
                    have h := rsame16_c bt bt be be bn bn bd bd Ai Aj ci cj W hok2.nl hok2.nl hok2.nb hok2.nb ((hri.below hb).more hb.size) ((hrj.below hb).more hb.size) hok2.bb hok2.bb hbl hbl
                    rw [sameBx_self] at h
                    exact h)
                  have HI := Lib.hid (fun (W : World) (h : ∃ x : Ext wr, W = x.wd) => show AtA W (ad.add (i * 15)) (bxL bt be bn Ai bd.length ci) by
                    obtain ⟨x, rfl⟩ := h
                    exact fun j u hu => x.cell (hat j u hu))
                  have HJ := Lib.hid (fun (W : World) (h : ∃ x : Ext wr, W = x.wd) => show AtA W (ac.add (i * 15)) (bxL bt be bn Aj bd.length cj) by
                    obtain ⟨x, rfl⟩ := h
                    exact fun j u hu => x.cell (hat2 j u hu))
                  have HIL := Lib.hid (bxLn bt be (nn := bn) Ai bd.length ci hok2.nl)
                  have HJL := Lib.hid (bxLn bt be (nn := bn) Aj bd.length cj hok2.nl)
                  have HLT := Lib.hid hlt
                  clear hat hat2 hri hrj hok hok2 hbl hlt hi
                  go_upto_region 24 with fail
                  refine wp_region_loud wr [] (fun _ _ _ => True) (by kernel_rfl) (by kernel_rfl) (by kernel_rfl) (by kernel_rfl) (fun _ _ _ _ h _ => h) (Below.refl _ _).drew ?_
                  repeat (first
                    | (refine wpLoud_call 132 rfl [] (.bool true) 18 (fun g' => #[.agg (bxV bt be bn Ai bd.length ci), .agg (bxV bt be bn Aj bd.length cj)]) rfl (fun _ _ h => by cases h) rfl (fun g' w => by kernel_rfl) (fun g' y hg => by
                        refine (HSX.out y.wd y.bel).mono ?_
                        rintro e w' ⟨rfl, hb⟩
                        exact ⟨_, rfl, hb, rfl⟩) _ (by simp only [Act.put, List.setIfInBounds_toArray, List.set_cons_succ, List.set_cons_zero]; rfl) ?_)
                    | (refine wpLoud_plain rfl rfl rfl ?_; intro K hK; refine quiet_loadA 39 (.tmp 126) rfl (ad.add (i * 15)) rfl (bxL bt be bn Ai bd.length ci) _ HI.out Tryz.underlying39 rfl HIL.out _ (by simp only [Act.put, List.setIfInBounds_toArray, List.set_cons_succ, List.set_cons_zero]; rfl) ?_; go_big_quiet_on)
                    | (refine wpLoud_plain rfl rfl rfl ?_; intro K hK; refine quiet_loadA 39 (.tmp 130) rfl (ac.add (i * 15)) rfl (bxL bt be bn Aj bd.length cj) _ HJ.out Tryz.underlying39 rfl HJL.out _ (by simp only [Act.put, List.setIfInBounds_toArray, List.set_cons_succ, List.set_cons_zero]; rfl) ?_; go_big_quiet_on)
                    | (refine wpLoud_plain rfl rfl rfl ?_; intro K hK; go_big_quiet_op; go_big_quiet_on))
                  refine wpLoud_end [] (by rfl) ?_
                  intro gg z hg
                  have HBZ9 := Lib.hid (HB.out.trans (z.bel.mono HB.out.size))
                  generalize z.wd = Y at *
                  simp only [fill, Act.put, List.setIfInBounds_toArray, List.set_cons_succ, List.set_cons_zero]
                  clear hg
                  go_wp2_with fail
                  go_roundw
                  case rel => exact ⟨i + 1, HLT.out, by go_num, HBZ9.out⟩
                  case measure => have := HLT.out; simp [intOf]; omega
                · obtain rfl : i = gs.length := by omega
                  have r1 : ¬ (gs.length : Int) < (gs.length : Int) := by omega
                  have HS8 := Lib.hid (HS7.out.next HB.out)
                  have HRM8 := Lib.hid (show RdP wr wr.heap.size Am M from (Rd.below (show Rd W7 W7.heap.size Am (pcs _) from HRM7.out) HB.out).more HB.out.size)
                  have HX8 := Lib.hid (HX7.out.next HB.out)
                  obtain ⟨Z1, Z2, hm1, hb1, hm2, hb2, hkm⟩ := keys_one wr ep HE.out k
                  have HSZ1 := Lib.hid (HS8.out.next hb1)
                  have HSZ2 := Lib.hid (HS8.out.next hb2)
                  have hops : ∀ b ∈ boxes k t ep gs gs.length, OpOk (kf1 ep k) b := fun b hb => by
                    obtain ⟨j, hj, rfl⟩ := bosTo_mem hb
                    have hgm : gs.getD j [] ∈ gs := by rw [List.getD_eq_getElem?_getD, List.getElem?_eq_getElem hj]; exact List.getElem_mem hj
                    refine opOk_boI (fun k' hk' => ?_) HK.out.1 HK.out.2 (by have := HTS.out; omega) HE.out (HNMT.out (by omega)) (HCO.out _ hgm).1 (by have := HGL.out _ hgm; omega) (fun p hp => ⟨(HGO.out _ hgm p hp).1, by have := (HGO.out _ hgm p hp).2; omega⟩)
                    unfold kf1 at hk'
                    rw [if_pos rfl] at hk'
                    injection hk' with hk'
                    exact hk'.symm
                  have hall : (boxes k t ep gs gs.length).map (opB (kf1 ep k)) = gs := by
                    by_cases h0 : 0 < gs.length
                    · unfold boxes
                      rw [opB_all (fun i _ => by unfold kf1; rw [if_pos rfl]) (HNMT.out h0) (fun i hi => by
                        have hgm : gs.getD i [] ∈ gs := by rw [List.getD_eq_getElem?_getD, List.getElem?_eq_getElem hi]; exact List.getElem_mem hi
                        exact ⟨(HCO.out _ hgm).1, fun p hp => (HGO.out _ hgm p hp).1⟩)]
                      exact range_getD gs
                    · have e0 : gs = [] := List.eq_nil_of_length_eq_zero (by omega)
                      rw [e0]; rfl
                  have hop : Calls Tryz.prog 10 #[.map (some wr.heap.size), .slice Ax gs.length cx] Z2 fun e w' => ∃ v, e = .returned (.tuple #[v, .int .i64 0]) ∧ OwnP w' Z2.heap.size v M ∧ Below Z2.heap.size Z2 w' := by
                    have h := bopen_c Ax cx (boxes k t ep gs gs.length) wr.heap.size 1 (kf1 ep k) Z2 (HX8.out.next hb2) (by rw [HLB.out]; have := HCF.out; omega) hkm hops HSZ2.out.q
                    rw [HLB.out] at h
                    refine h.mono ?_
                    rintro e w' ⟨h, hb⟩
                    rcases h with ⟨⟨b, hb1, hb2⟩, _⟩ | ⟨_, v, e1, h1⟩
                    · obtain ⟨j, hj, rfl⟩ := bosTo_mem hb1
                      have h3 : kf1 ep k ep = none := hb2
                      unfold kf1 at h3
                      rw [if_pos rfl] at h3
                      cases h3
                    · rw [hall, HMG.out] at h1
                      exact ⟨v, e1, h1, hb⟩
                  have HOP := Lib.hid hop
                  have HRMZ := Lib.hid (show RdP Z2 Z2.heap.size Am M from (Rd.below (show Rd wr wr.heap.size Am (pcs _) from HRM8.out) hb2).more hb2.size)
                  generalize wr.heap.size = kb at *
                  clear hops hall hop hkm hb1 hb2 hlt hi HS7 HX7 HY7 HRM7 HX8 HRM8 HS8
                  go_wp2_with (first
                    | (refine wpList_load_row rfl 23 (.tmp 5) rfl w.heap.size rfl 23 (vb k) (0, 0) _ HSZ1.out.kA Tryz.underlying23 rfl HKS.out ?_)
                    | (go_at_call 10; (with_reducible refine HOP.out.mono ?_); rintro e W8 ⟨v, rfl, ho, hb⟩; obtain ⟨A8, c8, rfl, _, _, hr8⟩ := ho.rd; have HB8 := Lib.hid (HSZ2.out.bel.trans (hb.mono HSZ2.out.bel.size)); have HSM := Lib.hid (rsameP_c W8.heap.size W8.heap.size A8 Am c8 cm M W8 hr8 ((Rd.below (show Rd Z2 Z2.heap.size Am (pcs _) from HRMZ.out) hb).more hb.size) (by have := HML.out; omega)); clear ho hb hr8)
                    | (go_at_call 11; (with_reducible refine HSM.out.mono ?_); rintro e Y2 ⟨rfl, nn, hd⟩; have HB2 := Lib.hid (show Below w.heap.size w Y2 by rw [hd]; exact belowDrewN nn HB8.out); have HAW := Lib.hid (awake17_c Y2); clear hd)
                    | (go_at_call 5; (with_reducible refine HAW.out.mono ?_); rintro e W9 ⟨rfl, hb⟩; have HB9 := Lib.hid (HB2.out.trans (hb.mono HB2.out.size)); clear hb))
                  go_ret
                  exact ⟨rfl, HB9.out⟩
end Go.Proofs.YtlkcpbmbhbogoaaGreatDoor
namespace Go.Proofs.YtlkcpbmbhbogoaaGreatDoor
set_option linter.unusedVariables false
set_option linter.unusedSimpArgs false
open Go Go.ChangeShapes Go.WideShapes Go.ChangeAt Go.RowKit
set_option maxRecDepth 100000 in
theorem blockPacks_lifted (os : Os) (started : os.Started) (H : Type) (enc : TypeId × Value → H) :
    ReturnsInHanded {} Tryz.checked os 4 .any (fun w args => (Rows.blockPacksSpec.pre enc Tryz.prog Tryz.f4 [] false w args ∧ laidMetH Tryz.prog laidQ w) ∧ sizedMet enc Tryz.prog Tryz.f4 (OpenSpec.ofChange Rows.blockPacksSpec) false w args) (Rows.blockPacksSpec.post enc Tryz.prog Tryz.f4 false true false false) := by
  refine liftQ started _ rfl (by kernel_rfl) Tryz.func4 ⟨rfl, fun H ds h => ?_⟩ rfl (of_decide_eq_true (by kernel_rfl))
    (ChangeSpec.witness_shaped (enc := enc) (C := Tryz.checked) (os := os) (X := fun w _ => laidMetH Tryz.prog laidQ w) false (World.doorLaid Tryz.prog 400 os) #[.agg (Array.replicate 32 (.int .u8 0)), .string ByteArray.empty, .int .u32 0, .slice none 0 0, .int .u8 0] 8 rfl (World.shaped_of_RefB (by kernel_rfl) (by kernel_rfl)) (by kernel_rfl) (by kernel_rfl) (by kernel_rfl) (door_met os _)) ?_
  · match ds, h with
    | [_, _, _, _, _], _ => rfl
  · intro W base args ds ps hq hval hA hlt
    rw [Tryz.params4] at hA hval
    obtain ⟨v0, vs0, d0, ds0, p0, q0, hargs, rfl, rfl, h0, r0⟩ := trodAll_cons hA
    obtain ⟨v1, vs1, d1, ds1, p1, q1, rfl, rfl, rfl, h1, r1⟩ := trodAll_cons r0
    obtain ⟨v2, vs2, d2, ds2, p2, q2, rfl, rfl, rfl, h2, r2⟩ := trodAll_cons r1
    obtain ⟨v3, vs3, d3, ds3, p3, q3, rfl, rfl, rfl, h3, r3⟩ := trodAll_cons r2
    obtain ⟨v4, vs4, d4, ds4, p4, q4, rfl, rfl, rfl, h4, r4⟩ := trodAll_cons r3
    obtain ⟨rfl, rfl, rfl⟩ := trodAll_nil r4
    obtain rfl : args = #[v0, v1, v2, v3, v4] := by cases args; simp_all
    obtain ⟨k0, rfl, kl0, ks0⟩ := open_key (hval 0 23 v0 rfl rfl) h0
    obtain ⟨s1, rfl, rfl, rfl, hs1⟩ := Go.ChangeMaps.open_string Tryz.underlying9 (hval 1 9 v1 rfl rfl) h1
    obtain ⟨a2, rfl, rfl, rfl, w2⟩ := open_int Tryz.underlying27 (hval 2 27 v2 rfl rfl) h2
    have hb2 := bounds_u32 w2
    obtain ⟨n2, rfl⟩ := Int.eq_ofNat_of_zero_le hb2.1
    obtain ⟨A3, l3, cap3, rfl, hc3, hm3, hl3, hr3⟩ := open_pieces (hval 3 30 v3 rfl rfl) h3
    obtain ⟨a4, rfl, rfl, rfl, w4⟩ := open_int Tryz.underlying5 (hval 4 5 v4 rfl rfl) h4
    have hb4 := bounds_u8 w4
    obtain ⟨n4, rfl⟩ := Int.eq_ofNat_of_zero_le hb4.1
    exact packs_c k0 s1 n2 A3 cap3 l3 n4 W kl0 ks0 (by simpa [maxLen] using hs1) (by omega) hr3 hc3 hm3 hl3 (by omega) hq
theorem blockPacks_row : Rows.BlockPacksSaid :=
  OpenClaim.holds_of_wide 4 Tryz.f4 rfl rfl rfl rfl rfl rfl rfl ⟨rfl, rfl, rfl, rfl, rfl⟩ rfl rfl rfl rfl rfl (by kernel_rfl) Tryz.func4 (by kernel_rfl)
    (of_decide_eq_true (by kernel_rfl)) (by unfold Func.isWrapper; rw [if_neg (by decide +kernel)]; exact ⟨rfl, rfl⟩)
    (fun os started H enc _ => blockPacks_lifted os started H enc)
theorem blockPacks_holds : Rows.BlockPacksCardSaid :=
  Claim7.holds_tied_plain_at .later [] [.data] true (true, "b821cf76cdbc9da2b8f7e9936eeca616e08053e2640eda9ff3ca9141380202db") false
    blockPacks_row (fun _ h => by cases h) (by kernel_rfl) (fun _ h => by cases h) blockPacks_row_tie rfl ⟨rfl, rfl⟩ (by kernel_rfl) rfl
    (fun f fn hf hfn => by
      obtain rfl : f = 4 := Option.some.inj ((show Tryz.prog.funcNamed "quaestor/quaestorlaw17.BlockPacks" = some 4 by kernel_rfl).symm.trans hf) |>.symm
      obtain rfl : fn = Tryz.f4 := (Option.some.inj (Tryz.func4.symm.trans hfn)).symm
      exact ⟨by kernel_rfl, fun j t ht => by
        rw [Tryz.params4] at ht
        have hm : t ∈ [23, 9, 27, 30, 5] := by simpa using Array.mem_of_getElem? ht
        have hall : ([23, 9, 27, 30, 5].all fun u => !Tryz.prog.wantsStandIn u) = true := by kernel_rfl
        exact (show Tryz.prog.wantsStandIn t = false by simpa using List.all_eq_true.1 hall t hm)⟩)
    (by kernel_rfl)
#print axioms blockPacks_holds
end Go.Proofs.YtlkcpbmbhbogoaaGreatDoor
