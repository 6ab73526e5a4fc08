/- BlockGroups returns true for any pieces. Conditions: none. -/
import Derived.Test.YtihbjnjpomljjaaZ05
/- BlockGroups, walked. -/
namespace Go.Proofs.Ytihbjnjpomljjaa
set_option maxRecDepth 100000
open Go.RowKit
set_option linter.unusedVariables false
set_option linter.unusedSimpArgs false
theorem run_zero (w : World) {o : Oper} {ρ : Operand → Value} (ho : o.op = .buildSlice 22 0 #[]) :
    (execOp ρ o).run Try.prog w = .ok (.value (.slice (some ⟨w.heap.size, 0, none⟩) 0 0)) (w.alloc (.cells #[] 33)) := by
  obtain ⟨i, hi, hz, hs, _⟩ := piece_parts
  unfold execOp
  simp [ho, Instr.buildSlice, run_underlying Try.underlying22, sizeOf, typeInfo, hi, Instr.fill, newRow]
  rw [show (Array.range 0).map (fun _ : Nat => (default : Value)) = #[] from Array.eq_empty_of_size_eq_zero (by simp)]
theorem op_appP {o : Oper} {a : Act} {w w' : World} {t : TypeId} {s x : Operand} {v u r : Value} (ho : o.op = .call { callee := .builtin .append, args := #[s, x], argTypes := #[t, t] }) (hs : a.eval s = v) (hx : a.eval x = u) (hrun : (Builtin.append_ #[t, t] o.type #[v, u]).run Try.prog w = .ok r w') : (execOp a.eval o).run Try.prog w = .ok (.value r) w' := by
  unfold execOp
  simp only [ho, resolve, invoke, builtin, Sem.run_bind, Sem.run_pure, Result.andThen_ok, List.map_toArray, List.map_cons, List.map_nil, hs, hx, hrun]
theorem quiet_loadA {P : Program} {C : World → Prop} {a : Act} {o : Oper} {K : Act → Prop} (ty : TypeId) (x : Operand) (ho : o.op = .load ty x) (b : Addr) (hx : a.eval x = .pointer (some b))
    (l : List Value) (d : TypeDesc) (hC : ∀ w, C w → AtA w b l) (hu : P.underlying ty = some d) (hd : d.isRow = true) (hi : (P.info? ty).map (·.size) = some l.length)
    (a' : Act) (ha : a.put o.dst (.agg l.toArray) = a') (h : K a') : o.quiet P a C K :=
  ⟨.agg l.toArray, fun w hw' => by
    unfold Oper.quietAt execOp
    simp only [ho, hx, Instr.loadAt, Instr.sureAddr, Sem.run_bind, Sem.run_pure, Result.andThen_ok, run_loadVar_at w b ty l d (hC w hw') hu hd hi]
    exact ⟨rfl, rfl⟩, by rw [ha]; exact h⟩
theorem rd_grown {w w' : World} {b g : Nat} {xs : List Value} (h : Rd w (b + 1) (some ⟨b, 0, none⟩) xs) (hg : w.grownBy w' (some g)) (hb : b < w.heap.size) (hn : b ≠ g) : Rd w' (b + 1) (some ⟨b, 0, none⟩) xs := fun hne => by
  obtain ⟨ad, e, h1, h2⟩ := h hne
  cases e
  refine ⟨_, rfl, h1, fun j u hu => ?_⟩
  rw [← h2 j u hu]
  have h3 : w'.heap[b]? = w.heap[b]? := hg.block b hb (fun e => by injection e with e; exact hn e)
  unfold World.cell?
  rw [add_block]
  rw [h3]
theorem run_lenQ {P : Program} {o : Oper} {ρ : Operand → Value} (s : Operand) (T : TypeId) {e : TypeId} (ht : P.underlying T = some (.slice e)) {A : Option Addr} {n c : Nat} (ho : o.op = .call { callee := .builtin .len, args := #[s], argTypes := #[T] }) (hs : ρ s = .slice A n c) (x : World) :
    (execOp ρ o).run P x = .ok (.value (.int .i64 (n : Nat))) x := by
  unfold execOp
  simp only [ho, resolve, invoke, builtin, Sem.run_bind, Sem.run_pure, Result.andThen_ok, List.map_toArray, List.map_cons, List.map_nil, hs]
  simp [Builtin.len_, run_underlying ht, goInt]
/-- an operation whose run is told, in any order -/
theorem anyH_run {P : Program} {ops : Array Oper} {md : Region.Mode} {S : World → Prop} {Q : Exit → Act → World → Prop} (i : Nat) {oi : Oper} {fuel : Nat} {listed : Array Bool} {a : Act} {w : World} (hi : ops[i]? = some oi) (v : Value) (hr : ∀ w, (execOp a.eval oi).run P w = .ok (.value v) w)
    (hs : Region.noSelect ops = true) (hf : Region.free md ops listed i = true) (hrd : (Region.ready md ops listed).contains i = true)
    (hQ : ∀ c a w, Q (.panic c) (a.put oi.dst v) w → Q (.panic c) a w) (hw : Region.wanted oi (yielded ops a.tmps) = true) (hS : S w)
    (a' : Act) (ha : a.put oi.dst v = a') (h : wpAnyH P md ops Q S fuel (listed.setIfInBounds i true) a' w) : wpAnyH P md ops Q S (fuel + 1) listed a w :=
  wpAnyH_take hi hs hf hrd hQ (.inl ⟨hw, fun w' _ => hr w'⟩) hS (by rw [ha]; exact h)
theorem getD_memP {l : List Pc} {k : Nat} (h : k < l.length) : l.getD k pc0 ∈ l := by
  rw [List.getD_eq_getElem?_getD, List.getElem?_eq_getElem h]
  exact List.getElem_mem h
theorem own_zero (w : World) (base : Nat) (h : base ≤ w.heap.size) : OwnP (w.alloc (.cells #[] 33)) base (.slice (some ⟨w.heap.size, 0, none⟩) 0 0) [] :=
  ⟨rfl, .inr ⟨w.heap.size, 0, #[], rfl, h, Blk.new w _ _, Nat.le_refl _, by decide, rfl, rfl⟩⟩
theorem flat_le (gs : List (List Pc)) (k : Nat) : (gs.take k).flatten.length ≤ gs.flatten.length := by
  have h : gs.flatten = (gs.take k).flatten ++ (gs.drop k).flatten := by rw [← List.flatten_append, List.take_append_drop]
  rw [h, List.length_append]; omega
/-- what the loop leaves as it is -/
structure GSt (w W : World) (A : Option Addr) (c : Nat) (l : List Pc) (B : Option Addr) (gs : List (List Pc)) : Prop where
  bel : Below w.heap.size w W
  sl : Sl W A c l
  ls : LsAt W B gs
theorem GSt.next {w W W' : World} {A : Option Addr} {c : Nat} {l : List Pc} {B : Option Addr} {gs : List (List Pc)} (h : GSt w W A c l B gs) (hb : Below W.heap.size W W') : GSt w W' A c l B gs :=
  ⟨h.bel.trans (hb.mono h.bel.size), h.sl.next hb, h.ls.next hb⟩
theorem ext_ls {Z : World} {B : Option Addr} {gs : List (List Pc)} (h : LsAt Z B gs) : ∀ x : Ext Z, LsAt x.wd B gs := fun x => h.next x.bel
set_option maxRecDepth 100000 in
set_option maxHeartbeats 32000000 in
theorem bgroups_c (A : Option Addr) (c : Nat) (l : List Pc) (w : World) (hs : Sl w A c l) (hl : l.length ≤ 9223372036854775807 ∧ ∀ p ∈ l, p.s.size ≤ 9223372036854775807) (hk : ∀ p ∈ l, PcOk p) :
    Calls Try.prog 3 #[.slice A l.length c] w fun e w' => e = .returned (.bool true) ∧ Below w.heap.size w w' := by
  obtain ⟨i0, hi, hz0, hz1, hz2⟩ := piece_parts
  obtain ⟨g1, hg1⟩ : ∃ g, greatB l 40 = g := ⟨_, rfl⟩
  have gc1 : Calls Try.prog 4 #[.slice A l.length c, .int .i64 40] w (fun e w' => e = .returned (.bool (greatB l 40)) ∧ w = w') := great_c w.heap.size A c l 40 w hs.rd hl.1 (by decide) hl.2
  rw [hg1] at gc1
  have GC1 := Lib.hid gc1
  have G1 := Lib.hid hg1
  have HS := Lib.hid hs
  have HL := Lib.hid hl
  have HK := Lib.hid hk
  clear hs hl hk hg1 gc1
  go_enter Try.func3, Try.ntmps3
  cases g1 with
  | true =>
    go_wp2_with (first
      | (go_at_call 4; (with_reducible refine GC1.out.mono ?_); rintro e w' ⟨rfl, rfl⟩)
      | (go_at_call 5; (refine (awake17_c w).mono ?_); rintro e W9 ⟨rfl, hb9⟩; have HB9 := Lib.hid hb9; clear hb9))
    go_ret
    exact ⟨rfl, HB9.out⟩
  | false =>
  have hn := greatB_no G1.out
  have hok : ∀ p ∈ l, PcOk p ∧ p.s.size ≤ 9223372036854775807 := fun p hp => ⟨HK.out p hp, HL.out.2 p hp⟩
  have HN := Lib.hid hn
  have HOK := Lib.hid hok
  have HCU := Lib.hid (cutS_c A c l w HS.out.rd HS.out.le (by have := hn.1; omega) hok)
  have hMl : (mergeL l).length ≤ 40 := Nat.le_trans (merge_len l) hn.1
  have hMk : ∀ p ∈ mergeL l, PcOk p ∧ p.s.size ≤ 400 ∧ ckP p = true := fun p hp => by
    have h := (mem_merge l p).1 hp
    exact ⟨HK.out p h.1, hn.2 p h.1, h.2.1⟩
  have HFL := Lib.hid (cut_flat (mergeL l))
  have HCO := Lib.hid (cut_ok (mergeL l) (merge_sorted l) (fun p hp => (hMk p hp).2.2))
  have HCN := Lib.hid (cut_next (mergeL l))
  have HRM := Lib.hid (fun W (h : Sl W A c l) => rmerge_c A c l W h.rd (by have := hn.1; omega) hok)
  have HMK := Lib.hid hMk
  have HML := Lib.hid hMl
  clear hn hok hMl hMk
  generalize cutG (mergeL l) = gs at *
  generalize mergeL l = M at *
  go_upto_region 4 with (first
    | (go_at_call 4; (with_reducible refine GC1.out.mono ?_); rintro e w' ⟨rfl, rfl⟩)
    | (go_at_call 6; (with_reducible refine HCU.out.mono ?_); rintro e W1 ⟨B, cB, rfl, hcb, hcb2, hls, hb1⟩; have HST := Lib.hid (show GSt w W1 A c l B gs from ⟨hb1, HS.out.next hb1, hls⟩); have HGC := Lib.hid hcb2; have HGL := Lib.hid hcb; clear hb1 hls hcb hcb2))
  clear HCU GC1 G1
  go_wp2_with fail
  go_loopw [4, 5] (fun av iv wr => ∃ k : Nat, k ≤ gs.length ∧ iv = .int .i64 (k : Nat) ∧ OwnP wr W1.heap.size av (gs.take k).flatten ∧ Below W1.heap.size W1 wr) (fun _ iv _ => gs.length - (intOf iv).toNat)
  case atStart => exact ⟨0, Nat.zero_le _, rfl, OwnP.nilM _ _, Below.refl _ _⟩
  case round =>
    rename World => wr
    obtain ⟨k, hkl, rfl, ho, hb⟩ := hrel
    by_cases hlt : k < gs.length
    · have q1 : (k : Int) < (gs.length : Int) := by omega
      have hgl : gs.length ≤ maxLen := Nat.le_trans HGL.out HGC.out
      have hg63 : (gs.length : Int) ≤ 9223372036854775807 := by unfold maxLen at hgl; omega
      obtain ⟨hg0, hgp⟩ := HCO.out (gs.getD k []) (by rw [List.getD_eq_getElem?_getD, List.getElem?_eq_getElem hlt]; exact List.getElem_mem hlt)
      have hmem : ∀ p ∈ gs.getD k [], PcOk p ∧ p.s.size ≤ 400 ∧ ckP p = true := fun p hp => HMK.out p (by
        rw [← HFL.out]
        exact List.mem_flatten.2 ⟨_, by rw [List.getD_eq_getElem?_getD, List.getElem?_eq_getElem hlt]; exact List.getElem_mem hlt, hp⟩)
      have hlen : (gs.take k).flatten.length + (gs.getD k []).length ≤ 40 := by
        have h1 := flat_le gs (k + 1)
        rw [flatten_take_succ gs k hlt, List.length_append, HFL.out] at h1
        have := HML.out
        omega
      have HTK := Lib.hid (flatten_take_succ gs k hlt)
      have HS1 := Lib.hid (HST.out.next hb)
      have HLS := Lib.hid (HS1.out.ls)
      obtain ⟨ad, Ak, ck, rfl, had, hcell, hck, hrk⟩ := HS1.out.ls k hlt
      have HO := Lib.hid ho
      have HB := Lib.hid hb
      have HLT := Lib.hid hlt
      have HLN := Lib.hid hlen
      have HRC := Lib.hid (rcheck_c Ak ck (gs.getD k []) wr hrk (by omega) (fun p hp => by have := (hmem p hp).2.1; omega))
      rw [hg0] at HRC
      have HRK := Lib.hid hrk
      have HAD := Lib.hid had
      have HCE := Lib.hid hcell
      have HMM := Lib.hid hmem
      have HCK := Lib.hid hck
      have r1 : ¬ ((gs.getD k []).length : Int) = 0 := by omega
      have r2 : ¬ (gs.getD k []).length = 0 := by omega
      have e0 := hcell
      clear hg0 hgp hmem hlen ho hb hlt hck had hcell hrk hgl
      generalize hg : gs.getD k [] = g at *
      have HGE := Lib.hid hg
      clear hg
      go_upto_region 8 with fail
      go_upto_region 10 with (go_at_call 7; (with_reducible refine HRC.out.mono ?_); rintro e W2 ⟨rfl, hb⟩; have HB2 := Lib.hid hb; clear hb)
      clear e0 HRC
      have e0 : W2.cell? (ad.add k) = some (.slice Ak g.length ck) := (HB2.out.cell (by rw [add_block]; exact HAD.out)).trans HCE.out
      have HS2 := Lib.hid (HS1.out.next HB2.out)
      have HRK2 := Lib.hid (show RdP W2 W2.heap.size Ak g from (Rd.below (show Rd wr wr.heap.size Ak (pcs _) from HRK.out) HB2.out).more HB2.out.size)
      have HA2 := Lib.hid (Nat.lt_of_lt_of_le HAD.out HB2.out.size)
      have HO2 := Lib.hid (HO.out.next HB2.out)
      have HBB := Lib.hid (HB.out.trans (HB2.out.mono HB.out.size))
      clear HRK HAD HCE HB HO
      by_cases hlt2 : k + 1 < gs.length
      · obtain ⟨N1, hN1⟩ : ∃ N1, N1 = k + 1 := ⟨_, rfl⟩
        have e1 : (k : Int) + 1 = (N1 : Int) := by omega
        have s1 : (N1 : Int) < (gs.length : Int) := by omega
        obtain ⟨ad2, Bk, dk, e2, _, hcell, hdk, hrd⟩ := HS2.out.ls (k + 1) hlt2
        cases e2
        have hgp2 := (HCO.out (gs.getD (k + 1) []) (by rw [List.getD_eq_getElem?_getD, List.getElem?_eq_getElem hlt2]; exact List.getElem_mem hlt2)).2
        have hnx := HCN.out k hlt2
        have hmem2 : ∀ p ∈ gs.getD (k + 1) [], PcOk p ∧ p.s.size ≤ 400 ∧ ckP p = true := fun p hp => HMK.out p (by
          rw [← HFL.out]
          exact List.mem_flatten.2 ⟨_, by rw [List.getD_eq_getElem?_getD, List.getElem?_eq_getElem hlt2]; exact List.getElem_mem hlt2, hp⟩)
        obtain ⟨bd, rfl, hbd, hat⟩ := hrd.open_ hgp2
        have hpa := hat.piece 0 hgp2
        obtain ⟨p, hpe⟩ : ∃ p, p = (gs.getD (k + 1) []).getD 0 pc0 := ⟨_, rfl⟩
        have hpm : PcOk p ∧ p.s.size ≤ 400 ∧ ckP p = true := hmem2 p (by rw [hpe]; exact getD_memP hgp2)
        rw [← hpe] at hpa hnx
        rw [show bd.add (0 * 5) = bd by simp [Addr.add]] at hpa
        obtain ⟨G, hG⟩ : ∃ G, G = g ++ [p] := ⟨_, rfl⟩
        have HG := Lib.hid hG
        rw [HGE.out, ← hG] at hnx
        obtain ⟨kk, hkk, hcast⟩ : ∃ kk : Int, (kk = 1 ∨ kk = 3) ∧ ((chkL G : Nat) : Int) = kk := by
          rcases chk_vals G with h | h | h
          · exact absurd h hnx
          · exact ⟨1, .inl rfl, by rw [h]; rfl⟩
          · exact ⟨3, .inr rfl, by rw [h]; rfl⟩
        have HRG := Lib.hid (fun (A : Option Addr) (c : Nat) (W : World) (h : RdP W W.heap.size A G) => rcheck_c A c G W h (by rw [hG, List.length_append]; have := HLN.out; simp; omega) (fun q hq => by
          rw [hG] at hq
          rcases List.mem_append.1 hq with h | h
          · have := (HMM.out q h).2.1; omega
          · rw [List.mem_singleton.1 h]; have := hpm.2.1; omega))
        rw [hcast] at HRG
        have s9 : (kk == 0) = false := by rcases hkk with rfl | rfl <;> rfl
        have s8 : ¬ kk = 0 := by rcases hkk with rfl | rfl <;> decide
        have c0 : ∀ x : Ext W2, x.wd.cell? (ad.add k) = some (.slice Ak g.length ck) := fun x => x.cell e0
        have c1 : ∀ x : Ext W2, x.wd.cell? (ad.add N1) = some (.slice (some bd) (gs.getD (k + 1) []).length dk) := fun x => x.cell (by rw [hN1]; exact hcell)
        have r3 : (0 : Int) < ((gs.getD (k + 1) []).length : Int) := by omega
        have r4 : 0 < (gs.getD (k + 1) []).length := hgp2
        have r5 : ((gs.getD (k + 1) []).length : Int) > 0 := r3
        have HPA := Lib.hid (fun W (h : ∃ z : Ext W2, W = z.wd) => show AtA W bd (pcL p) by
          obtain ⟨z, rfl⟩ := h
          exact fun i u hu => z.cell (hpa i u hu))
        generalize (gs.getD (k + 1) []).length = hl at *
        clear hN1 hcell hdk hrd hgp2 hnx hmem2 hat hpa hpe hpm hG hcast hkk hbd hlt2
        have hdr : ∃ x : Ext W2, W2.drew = x.wd := Ext.of (Below.refl _ _).drew
        refine wp_region_held (S := fun w' => ∃ x : Ext W2, w' = x.wd) (by kernel_rfl) ?_
        show wpAnyH _ _ _ _ _ 33 _ _ W2.drew
        refine anyH_quiet 0 rfl (by kernel_rfl) (by kernel_rfl) (by kernel_rfl) (fun _ _ _ _ h => h) rfl rfl hdr ?_
        intro K hK
        conv => arg 2; whnf
        go_big_quiet_op
        go_big_quiet_on
        refine anyH_quiet 1 rfl (by kernel_rfl) (by kernel_rfl) (by kernel_rfl) (fun _ _ _ _ h => h) rfl rfl hdr ?_
        intro K hK
        conv => arg 2; whnf
        go_big_quiet_op
        go_big_quiet_on
        refine anyH_quiet 2 rfl (by kernel_rfl) (by kernel_rfl) (by kernel_rfl) (fun _ _ _ _ h => h) rfl rfl hdr ?_
        intro K hK
        conv => arg 2; whnf
        go_big_quiet_op
        go_big_quiet_on
        refine anyH_run 3 rfl _ (run_lenQ (.tmp 33) 25 Try.underlying25 rfl rfl) (by kernel_rfl) (by kernel_rfl) (by kernel_rfl) (fun _ _ _ h => h) rfl hdr _ (by conv => lhs; arg 2; whnf) ?_
        simp only [Act.put, List.setIfInBounds_toArray, List.set_cons_succ, List.set_cons_zero]
        refine anyH_quiet 4 rfl (by kernel_rfl) (by kernel_rfl) (by kernel_rfl) (fun _ _ _ _ h => h) rfl rfl hdr ?_
        intro K hK
        conv => arg 2; whnf
        go_big_quiet_op
        go_big_quiet_on
        refine anyH_quiet 5 rfl (by kernel_rfl) (by kernel_rfl) (by kernel_rfl) (fun _ _ _ _ h => h) rfl rfl hdr ?_
        intro K hK
        conv => arg 2; whnf
        go_big_quiet_op
        go_big_quiet_on
        refine anyH_quiet 6 rfl (by kernel_rfl) (by kernel_rfl) (by kernel_rfl) (fun _ _ _ _ h => h) rfl rfl hdr ?_
        intro K hK
        conv => arg 2; whnf
        go_big_quiet_op
        go_big_quiet_on
        refine anyH_quiet 7 rfl (by kernel_rfl) (by kernel_rfl) (by kernel_rfl) (fun _ _ _ _ h => h) rfl rfl hdr ?_
        intro K hK
        conv => arg 2; whnf
        go_big_quiet_op
        go_big_quiet_on
        refine anyH_quiet 8 rfl (by kernel_rfl) (by kernel_rfl) (by kernel_rfl) (fun _ _ _ _ h => h) rfl rfl hdr ?_
        intro K hK
        conv => arg 2; whnf
        go_big_quiet_op
        go_big_quiet_on
        refine anyH_quiet 9 rfl (by kernel_rfl) (by kernel_rfl) (by kernel_rfl) (fun _ _ _ _ h => h) rfl rfl hdr ?_
        intro K hK
        conv => arg 2; whnf
        go_big_quiet_op
        go_big_quiet_on
        refine anyH_quiet 10 rfl (by kernel_rfl) (by kernel_rfl) (by kernel_rfl) (fun _ _ _ _ h => h) rfl rfl hdr ?_
        intro K hK
        conv => arg 2; whnf
        go_big_quiet_op
        go_big_quiet_on
        refine anyH_run 11 rfl _ (run_lenQ (.tmp 41) 22 Try.underlying22 rfl rfl) (by kernel_rfl) (by kernel_rfl) (by kernel_rfl) (fun _ _ _ h => h) rfl hdr _ (by conv => lhs; arg 2; whnf) ?_
        simp only [Act.put, List.setIfInBounds_toArray, List.set_cons_succ, List.set_cons_zero]
        refine anyH_quiet 12 rfl (by kernel_rfl) (by kernel_rfl) (by kernel_rfl) (fun _ _ _ _ h => h) rfl rfl hdr ?_
        intro K hK
        conv => arg 2; whnf
        go_big_quiet_op
        go_big_quiet_on
        refine anyH_quiet 13 rfl (by kernel_rfl) (by kernel_rfl) (by kernel_rfl) (fun _ _ _ _ h => h) rfl rfl hdr ?_
        intro K hK
        conv => arg 2; whnf
        go_big_quiet_op
        go_big_quiet_on
        refine anyH_quiet 14 rfl (by kernel_rfl) (by kernel_rfl) (by kernel_rfl) (fun _ _ _ _ h => h) rfl rfl hdr ?_
        intro K hK
        conv => arg 2; whnf
        go_big_quiet_op
        go_big_quiet_on
        refine anyH_quiet 16 rfl (by kernel_rfl) (by kernel_rfl) (by kernel_rfl) (fun _ _ _ _ h => h) rfl rfl hdr ?_
        intro K hK
        conv => arg 2; whnf
        go_big_quiet_op
        go_big_quiet_on
        refine anyH_quiet 17 rfl (by kernel_rfl) (by kernel_rfl) (by kernel_rfl) (fun _ _ _ _ h => h) rfl rfl hdr ?_
        intro K hK
        conv => arg 2; whnf
        go_big_quiet_op
        go_big_quiet_on
        refine anyH_quiet 18 rfl (by kernel_rfl) (by kernel_rfl) (by kernel_rfl) (fun _ _ _ _ h => h) rfl rfl hdr ?_
        intro K hK
        conv => arg 2; whnf
        go_big_quiet_op
        go_big_quiet_on
        refine anyH_quiet 19 rfl (by kernel_rfl) (by kernel_rfl) (by kernel_rfl) (fun _ _ _ _ h => h) rfl rfl hdr ?_
        intro K hK
        conv => arg 2; whnf
        go_big_quiet_op
        go_big_quiet_on
        refine anyH_quiet 21 rfl (by kernel_rfl) (by kernel_rfl) (by kernel_rfl) (fun _ _ _ _ h => h) rfl rfl hdr ?_
        intro K hK
        conv => arg 2; whnf
        go_big_quiet_op
        go_big_quiet_on
        refine anyH_quiet 22 rfl (by kernel_rfl) (by kernel_rfl) (by kernel_rfl) (fun _ _ _ _ h => h) rfl rfl hdr ?_
        intro K hK
        conv => arg 2; whnf
        go_big_quiet_op
        go_big_quiet_on
        refine anyH_quiet 23 rfl (by kernel_rfl) (by kernel_rfl) (by kernel_rfl) (fun _ _ _ _ h => h) rfl rfl hdr ?_
        intro K hK
        conv => arg 2; whnf
        go_big_quiet_op
        go_big_quiet_on
        refine anyH_quiet 24 rfl (by kernel_rfl) (by kernel_rfl) (by kernel_rfl) (fun _ _ _ _ h => h) rfl rfl hdr ?_
        intro K hK
        conv => arg 2; whnf
        go_big_quiet_op
        go_big_quiet_on
        refine anyH_quiet 25 rfl (by kernel_rfl) (by kernel_rfl) (by kernel_rfl) (fun _ _ _ _ h => h) rfl rfl hdr ?_
        intro K hK
        conv => arg 2; whnf
        go_big_quiet_op
        go_big_quiet_on
        refine anyH_quiet 26 rfl (by kernel_rfl) (by kernel_rfl) (by kernel_rfl) (fun _ _ _ _ h => h) rfl rfl hdr ?_
        intro K hK
        conv => arg 2; whnf
        go_big_quiet_op
        go_big_quiet_on
        refine anyH_quiet 27 rfl (by kernel_rfl) (by kernel_rfl) (by kernel_rfl) (fun _ _ _ _ h => h) rfl rfl hdr ?_
        intro K hK
        conv => arg 2; whnf
        refine quiet_loadA 33 (.tmp 57) rfl bd rfl (pcL p) _ HPA.out Try.underlying33 rfl (pcLn p) _ (by conv => lhs; arg 2; whnf) ?_
        go_big_quiet_on
        have hU : Below W2.heap.size W2 W2.drew := (Below.refl _ _).drew
        generalize W2.drew = U at *
        clear hdr
        refine anyH_two 15 28 (by kernel_rfl) rfl rfl rfl rfl ?_ ?_
        · refine op_value (run_zero U rfl) _ (by conv => lhs; arg 2; whnf) ⟨Ext.of (hU.alloc hU.size _), ?_⟩
          obtain ⟨U0, eU0⟩ : ∃ U0, U0 = U.alloc (.cells #[] 33) := ⟨_, rfl⟩
          have hU0 : Below W2.heap.size W2 U0 := by rw [eU0]; exact hU.alloc hU.size _
          have ow0 : OwnP U0 W2.heap.size (.slice (some ⟨U.heap.size, 0, none⟩) 0 0) [] := by rw [eU0]; exact own_zero U _ hU.size
          rw [← eU0]
          have EU0 := Lib.hid eU0
          clear eU0
          refine anyH_two 20 28 (by kernel_rfl) rfl rfl rfl rfl ?_ ?_
          · obtain ⟨v1, U1, hrun1, hap1⟩ := run_app (P := Try.prog) U0 W2.heap.size 22 22 33 i0 (.agg zPc) 5 48 Try.underlying22 hi hz0 hz1 hz2 rfl (by decide) (.slice (some ⟨U.heap.size, 0, none⟩) 0 0) 0 [] ow0 W2.heap.size Ak g.length ck (pcs g) (pcs_len _) (Rd.below (show Rd W2 W2.heap.size Ak (pcs g) from HRK2.out) hU0) (pcs_oneCell _) (by have := HLN.out; omega) (by have := HLN.out; omega) hU0.size
            have hU1 : Below W2.heap.size W2 U1 := hU0.trans (hap1.below ow0 hU0.size)
            have ow1 : OwnP U1 W2.heap.size v1 g := by
              have h1 := hap1.own
              rwa [Nat.zero_add, List.nil_append] at h1
            refine op_value (op_appP rfl rfl rfl hrun1) _ (by conv => lhs; arg 2; whnf) ⟨Ext.of hU1, ?_⟩
            refine anyH_op 28 (by kernel_rfl) rfl rfl ?_
            refine op_value (run_onePc U1 p _ rfl rfl) _ (by conv => lhs; arg 2; whnf) ⟨Ext.of (hU1.alloc hU1.size _), ?_⟩
            obtain ⟨U2, eU2⟩ : ∃ U2, U2 = U1.alloc (.cells (pcV p) 33) := ⟨_, rfl⟩
            have hU2 : Below W2.heap.size W2 U2 := by rw [eU2]; exact hU1.alloc hU1.size _
            have rd1 : Rd U2 (U1.heap.size + 1) (some ⟨U1.heap.size, 0, none⟩) (pcs [p]) := by rw [eU2]; exact rd_new U1 (pcs [p]) 33 (0, 0)
            rw [← eU2]
            have EU2 := Lib.hid eU2
            clear eU2
            have ow2 : OwnP U2 W2.heap.size v1 g := by rw [EU2.out]; exact ow1.allocM _
            obtain ⟨v3, U3, hrun3, hap3⟩ := run_app (P := Try.prog) U2 W2.heap.size 22 22 33 i0 (.agg zPc) 5 48 Try.underlying22 hi hz0 hz1 hz2 rfl (by decide) v1 g.length (pcs g) ow2 (U1.heap.size + 1) (some ⟨U1.heap.size, 0, none⟩) 1 1 (pcs [p]) rfl rd1 (pcs_oneCell _) (by have := HLN.out; omega) (by have := HLN.out; omega) hU2.size
            have hb3 : Below W2.heap.size W2 U3 := hU2.trans (hap3.below ow2 hU2.size)
            have ho3 : OwnP U3 W2.heap.size v3 G := by rw [HG.out]; exact OwnP.appM (l := g) (m := [p]) hap3
            obtain ⟨A3, c3, rfl, _, _, hr3⟩ := ho3.rd
            refine anyH_op 29 (by kernel_rfl) rfl rfl ?_
            refine op_value (op_appP rfl rfl rfl hrun3) _ (by conv => lhs; arg 2; whnf) ⟨Ext.of hb3, ?_⟩
            have hcc := HRG.out A3 c3 U3 hr3
            clear hrun3 hap3 ho3 hr3
            refine anyH_op 30 (by kernel_rfl) rfl rfl ?_
            refine op_call (by kernel_rfl) _ (fun v => by conv => lhs; arg 2; whnf) (hcc.mono ?_)
            rintro e U4 ⟨rfl, hb4⟩
            have hw4 : Below W2.heap.size W2 U4 := hb3.trans (hb4.mono hb3.size)
            refine ⟨_, rfl, Ext.of hw4, ?_⟩
            simp only [Act.put, List.setIfInBounds_toArray, List.set_cons_succ, List.set_cons_zero]
            refine anyH_quiet 31 rfl (by kernel_rfl) (by kernel_rfl) (by kernel_rfl) (fun _ _ _ _ h => h) rfl rfl (Ext.of hw4) ?_
            intro K hK
            conv => arg 2; whnf
            go_big_quiet_op
            go_big_quiet_on
            refine anyH_quiet 32 rfl (by kernel_rfl) (by kernel_rfl) (by kernel_rfl) (fun _ _ _ _ h => h) rfl rfl (Ext.of hw4) ?_
            intro K hK
            conv => arg 2; whnf
            go_big_quiet_op
            go_big_quiet_on
            refine wpAnyH_done (by kernel_rfl) ?_ _
            have e0 : U4.cell? (ad.add k) = some (.slice Ak g.length ck) := (hw4.cell (by rw [add_block]; exact HA2.out)).trans e0
            have HB3 := Lib.hid (HBB.out.trans (hw4.mono HBB.out.size))
            have HO3 := Lib.hid (HO2.out.next hw4)
            have HRK3 := Lib.hid (show RdP U4 U4.heap.size Ak g from (Rd.below (show Rd W2 W2.heap.size Ak (pcs _) from HRK2.out) hw4).more hw4.size)
            clear hcc hw4 hb4 hb3 c0 c1 HRG
            go_wp2_with (first
              | (at_builtin; refine wpList_app _ rfl (.tmp 64) (.tmp 68) _ rfl W1.heap.size 33 i0 (.agg zPc) 5 48 Try.underlying22 hi hz0 hz1 hz2 rfl (by decide) _ (gs.take k).flatten.length (pcs (gs.take k).flatten) rfl HO3.out U4.heap.size Ak g.length ck (pcs g) rfl (pcs_len _) (show Rd U4 U4.heap.size Ak (pcs g) from HRK3.out) (pcs_oneCell _) (by have := HLN.out; omega) (by have := HLN.out; omega) HB3.out.size ?_
                 intro v4 W4 hap
                 have HB4 := Lib.hid (HB3.out.trans (hap.below HO3.out HB3.out.size))
                 have HO4 := Lib.hid (OwnP.appM (l := (gs.take k).flatten) (m := g) hap)
                 clear hap))
            go_roundw
            case rel => exact ⟨k + 1, HLT.out, by go_num, by rw [HTK.out]; exact HO4.out, HB4.out⟩
            case measure => have := HLT.out; simp [intOf]; omega
          · refine op_value (run_onePc U0 p _ rfl rfl) _ (by conv => lhs; arg 2; whnf) ⟨Ext.of (hU0.alloc hU0.size _), ?_⟩
            obtain ⟨U1, eU1⟩ : ∃ U1, U1 = U0.alloc (.cells (pcV p) 33) := ⟨_, rfl⟩
            have hU1 : Below W2.heap.size W2 U1 := by rw [eU1]; exact hU0.alloc hU0.size _
            have rd1 : Rd U1 (U0.heap.size + 1) (some ⟨U0.heap.size, 0, none⟩) (pcs [p]) := by rw [eU1]; exact rd_new U0 (pcs [p]) 33 (0, 0)
            rw [← eU1]
            have EU1 := Lib.hid eU1
            clear eU1
            refine anyH_op 20 (by kernel_rfl) rfl rfl ?_
            have ow0 : OwnP U1 W2.heap.size (.slice (some ⟨U.heap.size, 0, none⟩) 0 0) [] := by rw [EU1.out]; exact ow0.allocM _
            obtain ⟨v1, U2, hrun1, hap1⟩ := run_app (P := Try.prog) U1 W2.heap.size 22 22 33 i0 (.agg zPc) 5 48 Try.underlying22 hi hz0 hz1 hz2 rfl (by decide) (.slice (some ⟨U.heap.size, 0, none⟩) 0 0) 0 [] ow0 W2.heap.size Ak g.length ck (pcs g) (pcs_len _) (Rd.below (show Rd W2 W2.heap.size Ak (pcs g) from HRK2.out) hU1) (pcs_oneCell _) (by have := HLN.out; omega) (by have := HLN.out; omega) hU1.size
            have hU2 : Below W2.heap.size W2 U2 := hU1.trans (hap1.below ow0 hU1.size)
            have ow1 : OwnP U2 W2.heap.size v1 g := by
              have h1 := hap1.own
              rwa [Nat.zero_add, List.nil_append] at h1
            refine op_value (op_appP rfl rfl rfl hrun1) _ (by conv => lhs; arg 2; whnf) ⟨Ext.of hU2, ?_⟩
            have rd2 : Rd U2 (U0.heap.size + 1) (some ⟨U0.heap.size, 0, none⟩) (pcs [p]) := rd_grown rd1 hap1.grown (by rw [EU1.out]; simp) (by rw [EU0.out]; simp)
            obtain ⟨v3, U3, hrun3, hap3⟩ := run_app (P := Try.prog) U2 W2.heap.size 22 22 33 i0 (.agg zPc) 5 48 Try.underlying22 hi hz0 hz1 hz2 rfl (by decide) v1 g.length (pcs g) ow1 (U0.heap.size + 1) (some ⟨U0.heap.size, 0, none⟩) 1 1 (pcs [p]) rfl rd2 (pcs_oneCell _) (by have := HLN.out; omega) (by have := HLN.out; omega) hU2.size
            have hb3 : Below W2.heap.size W2 U3 := hU2.trans (hap3.below ow1 hU2.size)
            have ho3 : OwnP U3 W2.heap.size v3 G := by rw [HG.out]; exact OwnP.appM (l := g) (m := [p]) hap3
            obtain ⟨A3, c3, rfl, _, _, hr3⟩ := ho3.rd
            refine anyH_op 29 (by kernel_rfl) rfl rfl ?_
            refine op_value (op_appP rfl rfl rfl hrun3) _ (by conv => lhs; arg 2; whnf) ⟨Ext.of hb3, ?_⟩
            have hcc := HRG.out A3 c3 U3 hr3
            clear hrun3 hap3 ho3 hr3
            refine anyH_op 30 (by kernel_rfl) rfl rfl ?_
            refine op_call (by kernel_rfl) _ (fun v => by conv => lhs; arg 2; whnf) (hcc.mono ?_)
            rintro e U4 ⟨rfl, hb4⟩
            have hw4 : Below W2.heap.size W2 U4 := hb3.trans (hb4.mono hb3.size)
            refine ⟨_, rfl, Ext.of hw4, ?_⟩
            simp only [Act.put, List.setIfInBounds_toArray, List.set_cons_succ, List.set_cons_zero]
            refine anyH_quiet 31 rfl (by kernel_rfl) (by kernel_rfl) (by kernel_rfl) (fun _ _ _ _ h => h) rfl rfl (Ext.of hw4) ?_
            intro K hK
            conv => arg 2; whnf
            go_big_quiet_op
            go_big_quiet_on
            refine anyH_quiet 32 rfl (by kernel_rfl) (by kernel_rfl) (by kernel_rfl) (fun _ _ _ _ h => h) rfl rfl (Ext.of hw4) ?_
            intro K hK
            conv => arg 2; whnf
            go_big_quiet_op
            go_big_quiet_on
            refine wpAnyH_done (by kernel_rfl) ?_ _
            have e0 : U4.cell? (ad.add k) = some (.slice Ak g.length ck) := (hw4.cell (by rw [add_block]; exact HA2.out)).trans e0
            have HB3 := Lib.hid (HBB.out.trans (hw4.mono HBB.out.size))
            have HO3 := Lib.hid (HO2.out.next hw4)
            have HRK3 := Lib.hid (show RdP U4 U4.heap.size Ak g from (Rd.below (show Rd W2 W2.heap.size Ak (pcs _) from HRK2.out) hw4).more hw4.size)
            clear hcc hw4 hb4 hb3 c0 c1 HRG
            go_wp2_with (first
              | (at_builtin; refine wpList_app _ rfl (.tmp 64) (.tmp 68) _ rfl W1.heap.size 33 i0 (.agg zPc) 5 48 Try.underlying22 hi hz0 hz1 hz2 rfl (by decide) _ (gs.take k).flatten.length (pcs (gs.take k).flatten) rfl HO3.out U4.heap.size Ak g.length ck (pcs g) rfl (pcs_len _) (show Rd U4 U4.heap.size Ak (pcs g) from HRK3.out) (pcs_oneCell _) (by have := HLN.out; omega) (by have := HLN.out; omega) HB3.out.size ?_
                 intro v4 W4 hap
                 have HB4 := Lib.hid (HB3.out.trans (hap.below HO3.out HB3.out.size))
                 have HO4 := Lib.hid (OwnP.appM (l := (gs.take k).flatten) (m := g) hap)
                 clear hap))
            go_roundw
            case rel => exact ⟨k + 1, HLT.out, by go_num, by rw [HTK.out]; exact HO4.out, HB4.out⟩
            case measure => have := HLT.out; simp [intOf]; omega
        · refine op_value (run_onePc U p _ rfl rfl) _ (by conv => lhs; arg 2; whnf) ⟨Ext.of (hU.alloc hU.size _), ?_⟩
          obtain ⟨U0, eU0⟩ : ∃ U0, U0 = U.alloc (.cells (pcV p) 33) := ⟨_, rfl⟩
          have hU0 : Below W2.heap.size W2 U0 := by rw [eU0]; exact hU.alloc hU.size _
          have rd1 : Rd U0 (U.heap.size + 1) (some ⟨U.heap.size, 0, none⟩) (pcs [p]) := by rw [eU0]; exact rd_new U (pcs [p]) 33 (0, 0)
          rw [← eU0]
          have EU0 := Lib.hid eU0
          clear eU0
          refine anyH_op 15 (by kernel_rfl) rfl rfl ?_
          refine op_value (run_zero U0 rfl) _ (by conv => lhs; arg 2; whnf) ⟨Ext.of (hU0.alloc hU0.size _), ?_⟩
          obtain ⟨U1, eU1⟩ : ∃ U1, U1 = U0.alloc (.cells #[] 33) := ⟨_, rfl⟩
          have hU1 : Below W2.heap.size W2 U1 := by rw [eU1]; exact hU0.alloc hU0.size _
          have ow0 : OwnP U1 W2.heap.size (.slice (some ⟨U0.heap.size, 0, none⟩) 0 0) [] := by rw [eU1]; exact own_zero U0 _ hU0.size
          rw [← eU1]
          have EU1 := Lib.hid eU1
          clear eU1
          refine anyH_op 20 (by kernel_rfl) rfl rfl ?_
          obtain ⟨v1, U2, hrun1, hap1⟩ := run_app (P := Try.prog) U1 W2.heap.size 22 22 33 i0 (.agg zPc) 5 48 Try.underlying22 hi hz0 hz1 hz2 rfl (by decide) (.slice (some ⟨U0.heap.size, 0, none⟩) 0 0) 0 [] ow0 W2.heap.size Ak g.length ck (pcs g) (pcs_len _) (Rd.below (show Rd W2 W2.heap.size Ak (pcs g) from HRK2.out) hU1) (pcs_oneCell _) (by have := HLN.out; omega) (by have := HLN.out; omega) hU1.size
          have hU2 : Below W2.heap.size W2 U2 := hU1.trans (hap1.below ow0 hU1.size)
          have ow1 : OwnP U2 W2.heap.size v1 g := by
            have h1 := hap1.own
            rwa [Nat.zero_add, List.nil_append] at h1
          refine op_value (op_appP rfl rfl rfl hrun1) _ (by conv => lhs; arg 2; whnf) ⟨Ext.of hU2, ?_⟩
          have rd2 : Rd U2 (U.heap.size + 1) (some ⟨U.heap.size, 0, none⟩) (pcs [p]) := rd_grown (Rd.below rd1 (by rw [EU1.out]; exact (Below.refl _ _).alloc (by rw [EU0.out]; simp) _)) hap1.grown (by rw [EU1.out, EU0.out]; simp; omega) (by rw [EU0.out]; simp)
          obtain ⟨v3, U3, hrun3, hap3⟩ := run_app (P := Try.prog) U2 W2.heap.size 22 22 33 i0 (.agg zPc) 5 48 Try.underlying22 hi hz0 hz1 hz2 rfl (by decide) v1 g.length (pcs g) ow1 (U.heap.size + 1) (some ⟨U.heap.size, 0, none⟩) 1 1 (pcs [p]) rfl rd2 (pcs_oneCell _) (by have := HLN.out; omega) (by have := HLN.out; omega) hU2.size
          have hb3 : Below W2.heap.size W2 U3 := hU2.trans (hap3.below ow1 hU2.size)
          have ho3 : OwnP U3 W2.heap.size v3 G := by rw [HG.out]; exact OwnP.appM (l := g) (m := [p]) hap3
          obtain ⟨A3, c3, rfl, _, _, hr3⟩ := ho3.rd
          refine anyH_op 29 (by kernel_rfl) rfl rfl ?_
          refine op_value (op_appP rfl rfl rfl hrun3) _ (by conv => lhs; arg 2; whnf) ⟨Ext.of hb3, ?_⟩
          have hcc := HRG.out A3 c3 U3 hr3
          clear hrun3 hap3 ho3 hr3
          refine anyH_op 30 (by kernel_rfl) rfl rfl ?_
          refine op_call (by kernel_rfl) _ (fun v => by conv => lhs; arg 2; whnf) (hcc.mono ?_)
          rintro e U4 ⟨rfl, hb4⟩
          have hw4 : Below W2.heap.size W2 U4 := hb3.trans (hb4.mono hb3.size)
          refine ⟨_, rfl, Ext.of hw4, ?_⟩
          simp only [Act.put, List.setIfInBounds_toArray, List.set_cons_succ, List.set_cons_zero]
          refine anyH_quiet 31 rfl (by kernel_rfl) (by kernel_rfl) (by kernel_rfl) (fun _ _ _ _ h => h) rfl rfl (Ext.of hw4) ?_
          intro K hK
          conv => arg 2; whnf
          go_big_quiet_op
          go_big_quiet_on
          refine anyH_quiet 32 rfl (by kernel_rfl) (by kernel_rfl) (by kernel_rfl) (fun _ _ _ _ h => h) rfl rfl (Ext.of hw4) ?_
          intro K hK
          conv => arg 2; whnf
          go_big_quiet_op
          go_big_quiet_on
          refine wpAnyH_done (by kernel_rfl) ?_ _
          have e0 : U4.cell? (ad.add k) = some (.slice Ak g.length ck) := (hw4.cell (by rw [add_block]; exact HA2.out)).trans e0
          have HB3 := Lib.hid (HBB.out.trans (hw4.mono HBB.out.size))
          have HO3 := Lib.hid (HO2.out.next hw4)
          have HRK3 := Lib.hid (show RdP U4 U4.heap.size Ak g from (Rd.below (show Rd W2 W2.heap.size Ak (pcs _) from HRK2.out) hw4).more hw4.size)
          clear hcc hw4 hb4 hb3 c0 c1 HRG
          go_wp2_with (first
            | (at_builtin; refine wpList_app _ rfl (.tmp 64) (.tmp 68) _ rfl W1.heap.size 33 i0 (.agg zPc) 5 48 Try.underlying22 hi hz0 hz1 hz2 rfl (by decide) _ (gs.take k).flatten.length (pcs (gs.take k).flatten) rfl HO3.out U4.heap.size Ak g.length ck (pcs g) rfl (pcs_len _) (show Rd U4 U4.heap.size Ak (pcs g) from HRK3.out) (pcs_oneCell _) (by have := HLN.out; omega) (by have := HLN.out; omega) HB3.out.size ?_
               intro v4 W4 hap
               have HB4 := Lib.hid (HB3.out.trans (hap.below HO3.out HB3.out.size))
               have HO4 := Lib.hid (OwnP.appM (l := (gs.take k).flatten) (m := g) hap)
               clear hap))
          go_roundw
          case rel => exact ⟨k + 1, HLT.out, by go_num, by rw [HTK.out]; exact HO4.out, HB4.out⟩
          case measure => have := HLT.out; simp [intOf]; omega
      · have s1 : ¬ (k : Int) + 1 < (gs.length : Int) := by omega
        clear hlt2
        go_quiet (fail)
        have hbz := belowDrewN nq (Below.refl W2.heap.size W2)
        generalize W2.drewN nq = W3 at *
        have e0 : W3.cell? (ad.add k) = some (.slice Ak g.length ck) := (hbz.cell (by rw [add_block]; exact HA2.out)).trans e0
        have HB3 := Lib.hid (HBB.out.trans (hbz.mono HBB.out.size))
        have HO3 := Lib.hid (HO2.out.next hbz)
        have HRK3 := Lib.hid (show RdP W3 W3.heap.size Ak g from (Rd.below (show Rd W2 W2.heap.size Ak (pcs _) from HRK2.out) hbz).more hbz.size)
        clear hbz
        go_wp2_with (first
          | (at_builtin; refine wpList_app _ rfl (.tmp 64) (.tmp 68) _ rfl W1.heap.size 33 i0 (.agg zPc) 5 48 Try.underlying22 hi hz0 hz1 hz2 rfl (by decide) _ (gs.take k).flatten.length (pcs (gs.take k).flatten) rfl HO3.out W3.heap.size Ak g.length ck (pcs g) rfl (pcs_len _) (show Rd W3 W3.heap.size Ak (pcs g) from HRK3.out) (pcs_oneCell _) (by have := HLN.out; omega) (by have := HLN.out; omega) HB3.out.size ?_
             intro v4 W4 hap
             have HB4 := Lib.hid (HB3.out.trans (hap.below HO3.out HB3.out.size))
             have HO4 := Lib.hid (OwnP.appM (l := (gs.take k).flatten) (m := g) hap)
             clear hap))
        go_roundw
        case rel => exact ⟨k + 1, HLT.out, by go_num, by rw [HTK.out]; exact HO4.out, HB4.out⟩
        case measure => have := HLT.out; simp [intOf]; omega
    · obtain rfl : k = gs.length := by omega
      have q1 : ¬ (gs.length : Int) < (gs.length : Int) := by omega
      rw [List.take_length, HFL.out] at ho
      obtain ⟨V, cV, rfl, hv1, hv2, hv3⟩ := ho.rd
      have HV := Lib.hid (show Sl wr V cV M from ⟨hv1, hv3⟩)
      have HS1 := Lib.hid (HST.out.next hb)
      clear ho hb hv1 hv2 hv3 hlt hkl
      go_wp2_with (first
        | (go_at_call 9; (with_reducible refine (HRM.out wr HS1.out.sl).mono ?_); rintro e Y1 ⟨v, rfl, ho, hb1⟩; obtain ⟨X, cX, rfl, hx1, _, hvr⟩ := ho.rd; have HB1 := Lib.hid hb1; have HSM := Lib.hid (rsameP_c Y1.heap.size Y1.heap.size V X cV cX M Y1 (HV.out.next hb1).rd hvr (by have := HML.out; omega)); clear hb1 hvr ho hx1)
        | (go_at_call 8; (with_reducible refine HSM.out.mono ?_); rintro e Y2 ⟨rfl, nn, hd⟩; have HB2 := Lib.hid (show Below Y1.heap.size Y1 Y2 by rw [hd]; exact belowDrewN nn (Below.refl _ _)); clear hd)
        | (go_at_call 5; (refine (awake17_c Y2).mono ?_); rintro e Y3 ⟨rfl, hb3⟩; have HB3 := Lib.hid hb3; clear hb3))
      go_ret
      have b1 := HS1.out.bel
      have b2 := b1.trans (HB1.out.mono b1.size)
      have b3 := b2.trans (HB2.out.mono b2.size)
      exact ⟨rfl, b3.trans (HB3.out.mono b3.size)⟩
end Go.Proofs.Ytihbjnjpomljjaa
namespace Go.Proofs.Ytihbjnjpomljjaa
open Go.ChangeShapes Go.WideShapes Go.ChangeAt Go.RowKit
set_option maxRecDepth 100000 in
theorem blockGroups_lifted (os : Os) (started : os.Started) (H : Type) (enc : TypeId × Value → H) :
    ReturnsInHanded {} Try.checked os 3 .any (Rows.blockGroupsSpec.pre6 enc Try.prog Try.f3 Rows.blockGroupsRow.domain false) (Rows.blockGroupsSpec.post enc Try.prog Try.f3 false true false false) := by
  refine lift started _ rfl (by kernel_rfl) Try.func3 ⟨rfl, fun H ds h => ?_⟩ rfl (of_decide_eq_true (by kernel_rfl))
    (ChangeSpec.witness6 (enc := enc) (C := Try.checked) false ⟨#[], #[.slice none 0 0], []⟩ 8 (by kernel_rfl) (by kernel_rfl) (by kernel_rfl) (by kernel_rfl)) ?_
  · match ds, h with
    | [_], _ => rfl
  · intro W base args ds ps hval hA hlt
    rw [Try.params3] at hA hval
    obtain ⟨v0, vs0, d0, ds0, p0, q0, hargs, rfl, rfl, h0, r0⟩ := trodAll_cons hA
    obtain ⟨rfl, rfl, rfl⟩ := trodAll_nil r0
    obtain rfl : args = #[v0] := by cases args; simp_all
    obtain ⟨A0, l0, cap0, rfl, hc0, hm0, hl0, hr0⟩ := open_pieces (hval 0 22 v0 rfl rfl) h0
    exact bgroups_c A0 cap0 l0 W ⟨hc0, hr0⟩ ⟨hm0, fun p hp => (hl0 p hp).2⟩ (fun p hp => (hl0 p hp).1)
theorem blockGroups_holds : Rows.BlockGroupsSaid :=
  OpenClaim.holds_of_wide 3 Try.f3 rfl rfl rfl rfl rfl rfl rfl ⟨rfl, rfl, rfl, rfl, rfl⟩ rfl rfl rfl rfl rfl (by kernel_rfl) Try.func3 (by kernel_rfl)
    (of_decide_eq_true (by kernel_rfl)) (by unfold Func.isWrapper; rw [if_neg (by decide +kernel)]; exact ⟨rfl, rfl⟩)
    (fun os started H enc _ => blockGroups_lifted os started H enc)
#print axioms blockGroups_holds
end Go.Proofs.Ytihbjnjpomljjaa
