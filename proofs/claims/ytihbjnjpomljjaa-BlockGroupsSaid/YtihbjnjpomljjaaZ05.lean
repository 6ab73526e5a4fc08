/- Parts, one behind the other: Bk2 Pa3 Bk3 Df9 Hld Po2. -/
import Derived.Test.YtihbjnjpomljjaaZ04
import Derived.OrdersHeld
/- Where a piece goes in a merged list; a piece laid over another one: plain. -/
namespace Go.Proofs.Ytihbjnjpomljjaa
set_option maxRecDepth 100000
open Go.RowKit
set_option linter.unusedVariables false
set_option linter.unusedSimpArgs false
/-- at is the place of p in M: all ahead of it stand ahead of p -/
def AheadOf (p : Pc) (M : List Pc) (at_ : Nat) : Prop := ∀ j, j < at_ → okPair (M.getD j pc0) p = true
theorem ahead_cons {p q : Pc} {M : List Pc} {k : Nat} (h : AheadOf p (q :: M) (k + 1)) : okPair q p = true ∧ AheadOf p M k := ⟨h 0 (by omega), fun j hj => h (j + 1) (by omega)⟩
theorem ins_end {p : Pc} : ∀ {M : List Pc}, AheadOf p M M.length → insP p M = M ++ [p]
  | [], _ => rfl
  | q :: M, h => by
    obtain ⟨h1, h2⟩ := ahead_cons (M := M) (k := M.length) h
    have h3 : samePl q p = false := by
      cases hs : samePl q p with
      | false => rfl
      | true => rw [okPair_irr q p hs] at h1; cases h1
    rw [insP, h3, if_neg (by simp), if_pos h1, ins_end h2]
    rfl
theorem ins_mid {p : Pc} : ∀ {M : List Pc} {k : Nat}, k < M.length → AheadOf p M k → okPair (M.getD k pc0) p = false → samePl (M.getD k pc0) p = false → insP p M = M.take k ++ [p] ++ M.drop k
  | [], k, hk, _, _, _ => by simp at hk
  | q :: M, 0, _, _, h1, h2 => by
    rw [List.getD_cons_zero] at h1 h2
    rw [insP, h2, if_neg (by simp), h1, if_neg (by simp)]
    rfl
  | q :: M, k + 1, hk, h, h1, h2 => by
    obtain ⟨h3, h4⟩ := ahead_cons h
    rw [List.getD_cons_succ] at h1 h2
    have h5 : samePl q p = false := by
      cases hs : samePl q p with
      | false => rfl
      | true => rw [okPair_irr q p hs] at h3; cases h3
    rw [insP, h5, if_neg (by simp), if_pos h3, ins_mid (by simpa using hk) h4 h1 h2]
    rfl
theorem ins_same {p : Pc} : ∀ {M : List Pc} {k : Nat}, k < M.length → AheadOf p M k → samePl (M.getD k pc0) p = true → insP p M = if better p (M.getD k pc0) then M.set k p else M
  | [], k, hk, _, _ => by simp at hk
  | q :: M, 0, _, _, h2 => by
    rw [List.getD_cons_zero] at h2 ⊢
    rw [insP, if_pos h2]
    rfl
  | q :: M, k + 1, hk, h, h2 => by
    obtain ⟨h3, h4⟩ := ahead_cons h
    rw [List.getD_cons_succ] at h2 ⊢
    have h5 : samePl q p = false := by
      cases hs : samePl q p with
      | false => rfl
      | true => rw [okPair_irr q p hs] at h3; cases h3
    rw [insP, h5, if_neg (by simp), if_pos h3, ins_same (by simpa using hk) h4 h2]
    split <;> rfl
theorem better_abv (p q : Pc) : better p q = (abvB p.n p.d q.n q.d || ((p.n == q.n) && (p.d == q.d)) && decide (q.v < p.v)) := by
  rw [Bool.eq_iff_iff, better_iff]
  unfold abvB
  simp only [Bool.or_eq_true, Bool.and_eq_true, decide_eq_true_eq, beq_iff_eq]
  omega
theorem pcs_setP : ∀ (l : List Pc) (k : Nat) (p : Pc) (rest : List Value) (_ : k < l.length),
    (((((pcs l ++ rest).set (k * 5) (.string p.s)).set (k * 5 + 1) (.int .i64 p.t)).set (k * 5 + 2) (.int .i64 p.v)).set (k * 5 + 3) (.int .u64 (p.n : Int))).set (k * 5 + 4) (.int .u16 (p.d : Int)) = pcs (l.set k p) ++ rest
  | [], _, _, _, h => by simp at h
  | q :: l, 0, p, rest, _ => rfl
  | q :: l, k + 1, p, rest, h => by
    have ih := pcs_setP l k p rest (by simpa using h)
    have key : ∀ (X : List Value) (i : Nat) (u : Value), (pcL q ++ X).set ((k + 1) * 5 + i) u = pcL q ++ X.set (k * 5 + i) u := fun X i u => by
      rw [show (k + 1) * 5 + i = (pcL q).length + (k * 5 + i) by simp [pcL]; omega, List.set_append_right _ _ (by omega), Nat.add_sub_cancel_left]
    have k0 := key (pcs l ++ rest) 0 (.string p.s)
    rw [Nat.add_zero, Nat.add_zero] at k0
    rw [List.set_cons_succ, pcs_cons, pcs_cons, List.append_assoc, k0, key, key, key, key, Nat.add_zero, ih, List.append_assoc]
theorem setCells_blk (T : TypeId) (g : Nat) : ∀ (vs : List Value) (o : Nat) (w : World) (cs : Array Value), Blk w g T cs → ∃ cs', cs' = (vs.zipIdx o).foldl (fun c x => c.setIfInBounds x.2 x.1) cs ∧ Blk (w.setCells g o vs) g T cs'
  | [], _, _, _, h => ⟨_, rfl, h⟩
  | v :: vs, o, w, cs, h => by
    rw [World.setCells]
    obtain ⟨cs', e, h2⟩ := setCells_blk T g vs (o + 1) _ _ (h.set_ o v)
    exact ⟨cs', e, h2⟩
theorem setCells_only (g : Nat) : ∀ (vs : List Value) (o : Nat) (w : World), Only (fun i => i = g) w (w.setCells g o vs)
  | [], _, w => Only.refl _ _
  | v :: vs, o, w => by
    rw [World.setCells]
    exact ((Only.refl (fun i => i = g) w).setCell (p := ⟨g, o, none⟩) (fun _ => rfl) v).trans (setCells_only g vs (o + 1) _)
theorem blk_setP {w : World} {g : Nat} {l : List Pc} {rest : List Value} (h : Blk w g 33 (pcs l ++ rest).toArray) (k : Nat) (hk : k < l.length) (p : Pc) : Blk (w.setCells g (k * 5) (pcL p)) g 33 (pcs (l.set k p) ++ rest).toArray := by
  obtain ⟨cs', e, h2⟩ := setCells_blk 33 g (pcL p) (k * 5) w _ h
  have e2 : cs' = (pcs (l.set k p) ++ rest).toArray := by
    rw [e, ← pcs_setP l k p rest hk]
    simp [pcL, List.zipIdx_cons]
  rw [← e2]
  exact h2
end Go.Proofs.Ytihbjnjpomljjaa
/- PieceAsks, walked. -/
namespace Go.Proofs.Ytihbjnjpomljjaa
set_option maxRecDepth 100000
open Go.RowKit
set_option linter.unusedVariables false
set_option linter.unusedSimpArgs false
theorem wpQuiet_loadV {P : Program} {ops : Array Oper} {C : World → Prop} {Q : Act → Prop} {a : Act} {o : Oper} {rest : List Oper} (hw : Region.wanted o (yielded ops a.tmps) = true) (ty : TypeId) (x : Operand) (ho : o.op = .load ty x) (b off : Nat) (hx : a.eval x = .pointer (some ⟨b, off, none⟩))
    (cs : Array Value) (d : TypeDesc) (hC : ∀ w, C w → w.rangeAt b off cs.toList) (hu : P.underlying ty = some d) (hd : d.isRow = true) (hi : (P.info? ty).map (·.size) = some cs.toList.length)
    (a' : Act) (ha : a.put o.dst (.agg cs) = a') (h : wpQuiet P ops C Q rest a') : wpQuiet P ops C Q (o :: rest) a := by
  refine BigFrame.wpQuiet_want hw fun K hK => ⟨.agg cs, fun w hw' => ?_, ?_⟩
  · unfold Oper.quietAt execOp
    simp only [ho, hx, Instr.loadAt, Instr.sureAddr, Sem.run_bind, Sem.run_pure, Result.andThen_ok, run_loadVar_mid w b off ty cs.toList d (hC w hw') hu hd hi, Array.toArray_toList]
    exact ⟨rfl, rfl⟩
  · rw [ha]; exact hK _ h
theorem ext_rangeV {w0 : World} {b off : Nat} {cs : List Value} (h : w0.rangeAt b off cs) : ∀ w, (∃ x : Ext w0, w = x.wd) → w.rangeAt b off cs := by
  rintro _ ⟨x, rfl⟩ j u hu
  exact x.cell (h j u hu)
theorem range_pc {w : World} {g : Nat} {p : Pc} (h : Blk w g 33 (pcV p)) : w.rangeAt g 0 (pcV p).toList := rangeAt_blk h
end Go.Proofs.Ytihbjnjpomljjaa
/- Contract: the document's Merge. -/
namespace Go.Proofs.Ytihbjnjpomljjaa
set_option maxRecDepth 100000
open Go.RowKit
set_option linter.unusedVariables false
set_option linter.unusedSimpArgs false
theorem tk5 {M : List Pc} {k : Nat} (h : k ≤ M.length) : (pcs (M.take k)).length = k * 5 := by
  rw [pcs_len, List.length_take, Nat.min_eq_left h]
theorem dr5 (M : List Pc) (k : Nat) : (pcs (M.drop k)).length = (M.length - k) * 5 := by
  rw [pcs_len, List.length_drop]
theorem app_takeN {w w' : World} {base : Nat} {v v' : Value} {M : List Pc} {k : Nat} (h : Apped w base 33 5 v w' v' (0 + k) ([] ++ pcs (M.take k))) (hk : k ≤ M.length) : OwnP w' base v' (M.take k) := by
  have h1 := h.own
  unfold OwnP
  rw [List.length_take, Nat.min_eq_left hk]
  rwa [Nat.zero_add, List.nil_append] at h1
theorem app_dropN {w w' : World} {base : Nat} {v v' : Value} {M L : List Pc} {k : Nat} (h : Apped w base 33 5 v w' v' (L.length + (M.length - k)) (pcs L ++ pcs (M.drop k))) : OwnP w' base v' (L ++ M.drop k) := by
  have h1 := h.own
  unfold OwnP
  rw [List.length_append, List.length_drop, pcs_app]
  exact h1
theorem own_forms {w : World} {base : Nat} {v : Value} {l : List Pc} (h : OwnP w base v l) : (v = .slice none 0 0 ∧ l = []) ∨ ∃ g c, v = .slice (some ⟨g, 0, none⟩) l.length c ∧ base ≤ g ∧ l.length ≤ c ∧ c ≤ maxLen ∧ g < w.heap.size ∧ AtA w ⟨g, 0, none⟩ (pcs l) := by
  rcases h.2 with ⟨h1, h2⟩ | ⟨g, cap, cur, e, hb, hh, hn, hm, hc, ht⟩
  · exact .inl ⟨h1, List.eq_nil_of_length_eq_zero h2⟩
  · refine .inr ⟨g, cap, e, hb, hn, hm, (Array.getElem?_eq_some_iff.1 hh).1, fun j u hu => ?_⟩
    have hj : j < l.length * 5 := by
      rcases Nat.lt_or_ge j (l.length * 5) with h1 | h1
      · exact h1
      · rw [List.getElem?_eq_none (by rw [pcs_len]; exact h1)] at hu; cases hu
    rw [Addr.add_mid, Nat.zero_add]
    refine cellOf hh ?_
    rw [← ht, List.getElem?_take_of_lt hj] at hu
    simpa using hu
theorem blk_there {w : World} {g : Nat} {T : TypeId} {cs : Array Value} (h : Blk w g T cs) (o n : Nat) (ho : o + n ≤ cs.size) : w.there g o n := fun j hj => by
  have h' : w.heap[g]? = some (.cells cs T (0, 0)) := h
  refine ⟨?_, ?_⟩
  · rw [h.cell, Array.getElem?_eq_getElem (by omega)]; rfl
  · unfold World.frozen?; simp [h']
theorem own_set {w : World} {base g c k : Nat} {M : List Pc} {p : Pc} (h : OwnP w base (.slice (some ⟨g, 0, none⟩) M.length c) M) (hk : k < M.length) (hbs : base ≤ w.heap.size) :
    w.there g (k * 5) 5 ∧ OwnP (w.setCells g (k * 5) (pcL p)) base (.slice (some ⟨g, 0, none⟩) M.length c) (M.set k p) ∧ Below base w (w.setCells g (k * 5) (pcL p)) := by
  rcases h.2 with ⟨h1, h2⟩ | ⟨g', cap, cur, e, hb, hh, hn, hm, hc, ht⟩
  · cases h1
  · cases e
    have e1 : cur = (pcs M ++ cur.toList.drop (M.length * 5)).toArray := by
      rw [← ht, List.take_append_drop]
    have hB : Blk w g 33 (pcs M ++ cur.toList.drop (M.length * 5)).toArray := by
      rw [← e1]; exact hh
    have hS := blk_setP hB k hk p
    refine ⟨blk_there hB (k * 5) 5 (by simp [pcs_len]; omega), ⟨?_, .inr ⟨g, c, _, ?_, hb, hS, ?_, hm, ?_, ?_⟩⟩, (setCells_only g (pcL p) (k * 5) w).below (fun i hi => by rw [hi]; exact hb) hbs⟩
    · rw [pcs_len]
    · rw [List.length_set]
    · rw [List.length_set]; exact hn
    · rw [← hc, e1]; simp [pcs_len]
    · rw [List.length_set]
      show List.take (M.length * 5) (pcs (M.set k p) ++ _) = _
      rw [List.take_left' (by rw [pcs_len, List.length_set])]
theorem AtA.timP {w : World} {a : Addr} {p : Pc} (h : AtA w a (pcL p)) : w.cell? ⟨a.block, a.off + 1, none⟩ = some (.int .i64 p.t) := h 1 _ rfl
theorem AtA.valP {w : World} {a : Addr} {p : Pc} (h : AtA w a (pcL p)) : w.cell? ⟨a.block, a.off + 2, none⟩ = some (.int .i64 p.v) := h 2 _ rfl
theorem AtA.idP {w : World} {a : Addr} {p : Pc} (h : AtA w a (pcL p)) : w.rangeAt a.block (a.off + 3) (idV p.n p.d).toList := fun j u hu => by
  match j with
  | 0 => rw [← hu]; exact h 3 _ rfl
  | 1 => rw [← hu]; exact h 4 _ rfl
  | n + 2 => simp [idV] at hu
theorem wpQuiet_loadO {P : Program} {ops : Array Oper} {C : World → Prop} {Q : Act → Prop} {a : Act} {o : Oper} {rest : List Oper} (ty : TypeId) (x : Operand) (ho : o.op = .load ty x) (b off : Nat) (hx : a.eval x = .pointer (some ⟨b, off, none⟩))
    (l : Array Value) (d : TypeDesc) (hC : ∀ w, C w → w.rangeAt b off l.toList) (hu : P.underlying ty = some d) (hd : d.isRow = true) (hi : (P.info? ty).map (·.size) = some l.size)
    (hw : Region.wanted o (yielded ops a.tmps) = true) (a' : Act) (ha : a.put o.dst (.agg l) = a') (h : wpQuiet P ops C Q rest a') : wpQuiet P ops C Q (o :: rest) a :=
  wpQuiet_loadV hw ty x ho b off hx l d hC hu hd hi a' ha h
theorem ahead_succ {p : Pc} {M : List Pc} {k : Nat} (h : AheadOf p M k) (h1 : okPair (M.getD k pc0) p = true) : AheadOf p M (k + 1) := fun j hj => by
  rcases Nat.lt_or_ge j k with h2 | h2
  · exact h j h2
  · rw [show j = k by omega]; exact h1
set_option maxRecDepth 100000 in
set_option maxHeartbeats 16000000 in
theorem rmerge_c (A : Option Addr) (cap : Nat) (l : List Pc) (w : World) (hr : RdP w w.heap.size A l) (hl : l.length ≤ 100000) (hk : ∀ p ∈ l, PcOk p ∧ p.s.size ≤ 9223372036854775807) :
    Calls Try.prog 9 #[.slice A l.length cap] w fun e w' => ∃ v, e = .returned v ∧ OwnP w' w.heap.size v (mergeL l) ∧ Below w.heap.size w w' := by
  obtain ⟨i0, hi, hz0, hz1, hz2⟩ := piece_parts
  have zf := zero_pc
  have zs1 : zPc.size = 5 := by rfl
  have zs2 : ¬ zPc = #[] := by intro h; have := congrArg Array.size h; rw [zs1] at this; cases this
  have HR := Lib.hid hr
  have HK := Lib.hid hk
  clear hr hk
  go_enter Try.func9, Try.ntmps9
  go_wp2_with fail
  go_loopw [3, 4] (fun ov iv wr => ∃ i : Nat, i ≤ l.length ∧ iv = .int .i64 (i : Nat) ∧ OwnP wr w.heap.size ov (mgTo [] (l.take i)) ∧ Below w.heap.size w wr) (fun _ iv _ => l.length - (intOf iv).toNat)
  case atStart => exact ⟨0, Nat.zero_le _, rfl, OwnP.nilM _ _, Below.refl _ _⟩
  case round =>
    rename World => wr
    obtain ⟨i, hil, rfl, ho, hb⟩ := hrel
    by_cases hlt : i < l.length
    · have q1 : (i : Int) < (l.length : Int) := by omega
      obtain ⟨al, rfl, hab, hat⟩ := (show RdP wr w.heap.size A l from Rd.below HR.out hb).open_ (by omega)
      obtain ⟨p, hpe⟩ : ∃ p, p = l.getD i pc0 := ⟨_, rfl⟩
      have hpa := hat.piece i hlt
      rw [← hpe] at hpa
      have hpL : p ∈ l := by rw [hpe, List.getD_eq_getElem?_getD, List.getElem?_eq_getElem hlt]; exact List.getElem_mem hlt
      obtain ⟨hpk, hps⟩ := HK.out p hpL
      have htk : mgTo [] (l.take (i + 1)) = if ckP p then insP p (mgTo [] (l.take i)) else mgTo [] (l.take i) := by rw [take_snocP l i hlt, mgTo_snoc, hpe]
      have hML : (mgTo [] (l.take i)).length ≤ i := by
        have := mgTo_len (l.take i) []
        rw [List.length_take] at this
        simp at this
        omega
      generalize mgTo [] (l.take i) = M at *
      have HPA := Lib.hid hpa
      have HO := Lib.hid ho
      have HB := Lib.hid hb
      have HIL := Lib.hid hlt
      have HRC := Lib.hid (fun W => rpcheck_c p W hps)
      clear hat hpe hpa hpL hpk hps ho hb hab
      go_upto_region 6 with (first
        | (refine wpList_loadA rfl 33 (.tmp 16) rfl (al.add (i * 5)) rfl (pcL p) _ HPA.out Try.underlying33 rfl (pcLn p) ?_)
        | (refine wpList_store_rowTo rfl 33 (.tmp 5) (.tmp 17) rfl rfl wr.heap.size (pcV p) rfl rfl 33 zPc (by exact heap_alloc_new _ _) (pcInfo p) rfl (pcV_one p) ?_))
      obtain ⟨Y, hY⟩ : ∃ Y, Y = (wr.alloc (Obj.cells zPc 33)).setRow wr.heap.size (pcV p) := ⟨_, rfl⟩
      have hnr := new_rowP wr 33 zPc (pcV p)
      rw [← hY] at hnr ⊢
      have HG0 := Lib.hid hnr.1
      have HBY := Lib.hid (HB.out.trans (hnr.2.mono HB.out.size))
      have HOY := Lib.hid (HO.out.next hnr.2)
      clear hnr hY HPA HO HB
      generalize wr.heap.size = g1 at *
      by_cases hck : ckP p = true
      · rw [if_pos hck] at htk
        have HTK := Lib.hid htk
        rw [hck] at HRC
        clear htk hck hlt
        go_upto_region 7 with (first
          | (refine wpList_loadA rfl 33 (.tmp 5) rfl ⟨g1, 0, none⟩ rfl (pcL p) _ (atA_blk HG0.out) Try.underlying33 rfl (pcLn p) ?_)
          | (go_at_call 13; (refine (HRC.out Y).mono ?_); rintro e Y2 ⟨rfl, hb⟩; have HYY := Lib.hid hb; clear hb))
        have HG2 := Lib.hid (HG0.out.below HYY.out HG0.out.lt)
        have HB2 := Lib.hid (HBY.out.trans (HYY.out.mono HBY.out.size))
        have HO2 := Lib.hid (HOY.out.next HYY.out)
        clear HG0 HBY HOY HYY HRC
        rcases own_forms HO2.out with ⟨rfl, hM0⟩ | ⟨g, c, rfl, hgb, hnc, hcm, hgl, hat⟩
        · -- nothing yet
          have HE := Lib.hid hM0
          subst hM0
          go_wp2_with fail
          go_loopw [6] (fun kv wq => kv = .int .i64 0 ∧ Below Y2.heap.size Y2 wq) (fun _ _ => 0)
          case atStart => exact ⟨rfl, Below.refl _ _⟩
          case round =>
            rename World => wq
            obtain ⟨rfl, hbq⟩ := hrel
            go_upto_region 8 with fail
            go_quiet (fail)
            have hbz := belowDrewN nq hbq
            generalize wq.drewN nq = Yz at *
            go_upto_region 10 with fail
            go_quiet (fail)
            have hby := belowDrewN nq hbz
            generalize Yz.drewN nq = Yq at *
            have HG1 := Lib.hid (HG2.out.below hby HG2.out.lt)
            have HBQ := Lib.hid (HB2.out.trans (hby.mono HB2.out.size))
            clear hbq hbz hby
            have hi9 := HIL.out
            go_wp2_with (first
              | (at_builtin; refine wpList_app _ rfl (.tmp 113) (.tmp 116) _ rfl Yq.heap.size 33 i0 (.agg zPc) 5 48 Try.underlying22 hi hz0 hz1 hz2 rfl (by decide) _ 0 [] rfl (OwnP.nilM _ _) Yq.heap.size none 0 0 (pcs (([] : List Pc).take 0)) rfl rfl (by exact Rd.nil_ _ _ _) (pcs_oneCell _) (by omega) (by omega) (Nat.le_refl _) ?_
                 intro v1 U1 hap
                 have HU1 := Lib.hid (hap.below (OwnP.nilM _ _) (Nat.le_refl _))
                 have HV1 := Lib.hid (app_takeN (M := []) hap (Nat.le_refl 0))
                 clear hap)
              | (refine wpList_loadA rfl 33 (.tmp 5) rfl ⟨g1, 0, none⟩ rfl (pcL p) _ (atA_blk (HG1.out.below HU1.out HG1.out.lt)) Try.underlying33 rfl (pcLn p) ?_)
              | (refine wpList_valM rfl _ _ (run_onePc U1 p (.tmp 119) rfl (by kernel_rfl)) ?_)
              | (at_builtin; refine wpList_app _ rfl (.tmp 118) (.tmp 120) _ rfl Yq.heap.size 33 i0 (.agg zPc) 5 48 Try.underlying22 hi hz0 hz1 hz2 rfl (by decide) _ (([] : List Pc).take 0).length (pcs (([] : List Pc).take 0)) rfl (HV1.out.allocM _) _ (some ⟨U1.heap.size, 0, none⟩) 1 1 (pcs [p]) rfl rfl (by exact rd_new U1 (pcs [p]) 33 (0, 0)) (pcs_oneCell _) (by decide) (by decide) (by have := HU1.out.size; simp; omega) ?_
                 intro v2 U2 hap
                 have HU2 := Lib.hid ((HU1.out.alloc HU1.out.size _).trans (hap.below (HV1.out.allocM _) (by have := HU1.out.size; simp; omega)))
                 have HV2 := Lib.hid (OwnP.appM (l := ([] : List Pc).take 0) (m := [p]) hap)
                 clear hap)
              | (at_builtin; refine wpList_app _ rfl (.tmp 122) (.tmp 125) _ rfl Yq.heap.size 33 i0 (.agg zPc) 5 48 Try.underlying22 hi hz0 hz1 hz2 rfl (by decide) _ (([] : List Pc).take 0 ++ [p]).length (pcs (([] : List Pc).take 0 ++ [p])) rfl HV2.out Yq.heap.size none (0) 0 (pcs (([] : List Pc).drop 0)) rfl rfl (by exact Rd.nil_ _ _ _) (pcs_oneCell _) (by simp) (by simp) HU2.out.size ?_
                 intro v3 U3 hap
                 have HU3 := Lib.hid (HU2.out.trans (hap.below HV2.out HU2.out.size))
                 have HV3 := Lib.hid (app_dropN (M := []) (k := 0) hap)
                 clear hap))
            go_roundw
            case rel =>
              refine ⟨i + 1, by have := HIL.out; omega, by go_num, ?_, HBQ.out.trans (HU3.out.mono HBQ.out.size)⟩
              have h := own_base_le HV3.out HBQ.out.size
              rw [HTK.out]
              exact h
            case measure => have := HIL.out; simp [intOf]; omega
        · obtain ⟨ad, had⟩ : ∃ ad : Addr, ad = ⟨g, 0, none⟩ := ⟨_, rfl⟩
          have HAD := Lib.hid had
          have hO := HO2.out
          have hga : ad.block < Y2.heap.size := by rw [had]; exact hgl
          rw [← had] at hO hat ⊢
          have HO3 := Lib.hid hO
          have HAT := Lib.hid hat
          have HGA := Lib.hid hga
          have hcI : (c : Int) ≤ 9223372036854775807 := by unfold maxLen at hcm; omega
          have hi9 := HIL.out
          clear HO2 hO hat had hgb hgl hga hcm
          go_wp2_with fail
          go_loopw [6] (fun kv wq => ∃ k : Nat, k ≤ M.length ∧ kv = .int .i64 (k : Nat) ∧ AheadOf p M k ∧ Below Y2.heap.size Y2 wq) (fun kv _ => M.length - (intOf kv).toNat)
          case atStart => exact ⟨0, Nat.zero_le _, rfl, fun j hj => absurd hj (Nat.not_lt_zero j), Below.refl _ _⟩
          case round =>
            rename World => wq
            obtain ⟨k, hkl, rfl, hah, hbq⟩ := hrel
            by_cases hlt : k < M.length
            · have q1 : (k : Int) < (M.length : Int) := by omega
              have r6 : (k : Int) ≤ (c : Int) := by omega
              have r7 : (k : Int) ≤ (M.length : Int) := by omega
              have r8 : (0 : Int) ≤ (k : Int) := by omega
              have r9 : decide ((k : Int) < 0) = false := decide_eq_false (by omega)
              have rA : ¬ c = k := by omega
              have hqa := (show AtA wq (ad.add (k * 5)) (pcL (M.getD k pc0)) from (HAT.out.below hbq HGA.out).piece k hlt)
              have HIM := Lib.hid (fun h1 h2 => ins_mid hlt hah h1 h2)
              have HIS := Lib.hid (ins_same hlt hah)
              have HAS := Lib.hid (ahead_succ hah)
              have HQA := Lib.hid hqa
              have HPR := Lib.hid (show okPair (M.getD k pc0) p = (Op.bytesLess (M.getD k pc0).s.toList p.s.toList || ((M.getD k pc0).s.toList == p.s.toList && decide ((M.getD k pc0).t < p.t))) from rfl)
              have HSP := Lib.hid (show samePl (M.getD k pc0) p = (((M.getD k pc0).s.toList == p.s.toList) && ((M.getD k pc0).t == p.t)) from rfl)
              have HBQ0 := Lib.hid hbq
              have HLT := Lib.hid hlt
              clear hqa hah hbq hlt hkl
              generalize M.getD k pc0 = q at *
              have e0 := HQA.out.ser
              have e1 := HQA.out.timP
              have HPA := Lib.hid (atA_blk (HG2.out.below HBQ0.out HG2.out.lt))
              have e2 : wq.cell? ⟨g1, 0, none⟩ = some (.string p.s) := HPA.out.ser
              have e3 : wq.cell? ⟨g1, 1, none⟩ = some (.int .i64 p.t) := HPA.out.timP
              rcases (show Op.bytesLess q.s.toList p.s.toList = true ∨ Op.bytesLess q.s.toList p.s.toList = false by cases Op.bytesLess q.s.toList p.s.toList <;> simp) with hL | hL
              · have HA1 := Lib.hid (HAS.out (by rw [HPR.out, hL]; rfl))
                go_upto_region 8 with fail
                go_quiet (fail)
                have HBZ := Lib.hid (HBQ0.out.trans (belowDrewN nq (Below.refl _ _) |>.mono HBQ0.out.size))
                generalize wq.drewN nq = Yz at *
                go_wp2_with fail
                go_roundw
                case rel => exact ⟨k + 1, HLT.out, by go_num, HA1.out, HBZ.out⟩
                case measure => have := HLT.out; simp [intOf]; omega
              · rcases (show (q.s.toList == p.s.toList) = true ∨ (q.s.toList == p.s.toList) = false by cases (q.s.toList == p.s.toList) <;> simp) with hS | hS
                · by_cases hT : q.t < p.t
                  · have hT1 : decide (q.t < p.t) = true := decide_eq_true hT
                    have HA1 := Lib.hid (HAS.out (by rw [HPR.out, hL, hS, hT1]; rfl))
                    clear hT
                    go_upto_region 8 with fail
                    go_quiet (fail)
                    have HBZ := Lib.hid (HBQ0.out.trans (belowDrewN nq (Below.refl _ _) |>.mono HBQ0.out.size))
                    generalize wq.drewN nq = Yz at *
                    go_wp2_with fail
                    go_roundw
                    case rel => exact ⟨k + 1, HLT.out, by go_num, HA1.out, HBZ.out⟩
                    case measure => have := HLT.out; simp [intOf]; omega
                  · have hT1 : decide (q.t < p.t) = false := decide_eq_false hT
                    rcases (show (q.t == p.t) = true ∨ (q.t == p.t) = false by cases (q.t == p.t) <;> simp) with hQ | hQ
                    · have HI1 := Lib.hid (HIS.out (by rw [HSP.out, hS, hQ]; rfl))
                      clear hT
                      go_upto_region 8 with fail
                      go_quiet (fail)
                      have HQ5 := Lib.hid (show AtA (wq.drewN nq) (ad.add (k * 5)) (pcL q) from (HQA.out.below (belowDrewN nq (Below.refl wq.heap.size wq)) (by rw [add_block]; exact Nat.lt_of_lt_of_le HGA.out HBQ0.out.size)))
                      have hbz := belowDrewN nq HBQ0.out
                      clear e0 e1 e2 e3 HQA HPA
                      generalize wq.drewN nq = Yz at *
                      have hpz := atA_blk (HG2.out.below hbz HG2.out.lt)
                      have e0 := HQ5.out.ser
                      have e1 := HQ5.out.timP
                      have e2 : Yz.cell? ⟨g1, 0, none⟩ = some (.string p.s) := hpz.ser
                      have e3 : Yz.cell? ⟨g1, 1, none⟩ = some (.int .i64 p.t) := hpz.timP
                      clear hpz
                      go_upto_region 10 with fail
                      go_quiet (fail)
                      have hby := belowDrewN nq hbz
                      have HQ6 := Lib.hid (show AtA (Yz.drewN nq) (ad.add (k * 5)) (pcL q) from (HQ5.out.below (belowDrewN nq (Below.refl Yz.heap.size Yz)) (by rw [add_block]; exact Nat.lt_of_lt_of_le HGA.out hbz.size)))
                      clear e0 e1 e2 e3
                      generalize Yz.drewN nq = Yq at *
                      have HG1 := Lib.hid (HG2.out.below hby HG2.out.lt)
                      have HBQ := Lib.hid (HB2.out.trans (hby.mono HB2.out.size))
                      have HBY2 := Lib.hid hby
                      have R1 := Lib.hid (ext_rangeV (rangeAt_id HG1.out))
                      have R2 := Lib.hid (ext_rangeV HQ6.out.idP)
                      have HII := Lib.hid (idLn p.n p.d)
                      have HIQ := Lib.hid (idLn q.n q.d)
                      have heq := fun W => run_eq_id p.n p.d q.n q.d W 9998
                      have hab := fun W => rabove_c p.n p.d q.n q.d W
                      have hpv := (atA_blk HG1.out).valP
                      have c1 : ∀ x : Ext Yq, x.wd.cell? ⟨g1, 2, none⟩ = some (.int .i64 p.v) := fun x => x.cell hpv
                      have hqv := HQ6.out.valP
                      have c2 := fun x : Ext Yq => x.cell hqv
                      clear hby hpv hqv
                      have hBT := better_abv p q
                      rcases (show abvB p.n p.d q.n q.d = true ∨ abvB p.n p.d q.n q.d = false by cases abvB p.n p.d q.n q.d <;> simp) with hA | hA
                      · rw [hA, Bool.true_or] at hBT
                        simp only [hA] at hab
                        have HAB := Lib.hid hab
                        clear hab
                        go_upto_region 11 with fail
                        refine wp_region_class (Ext.wd (w0 := Yq)) (by kernel_rfl) (by kernel_rfl) (Ext.of (Below.refl _ _).drew) ?_
                        repeat (first
                          | go_big_quiet_skip
                          | (refine wpQuiet_loadO 31 (.tmp 81) rfl g1 3 rfl (idV p.n p.d) _ R1.out Try.underlying31 rfl HII.out rfl _ (by simp only [Act.put, List.setIfInBounds_toArray, List.set_cons_succ, List.set_cons_zero]; rfl) ?_)
                          | (refine wpQuiet_loadO 31 (.tmp 86) rfl (ad.add (k * 5)).block ((ad.add (k * 5)).off + 3) rfl (idV q.n q.d) _ R2.out Try.underlying31 rfl HIQ.out rfl _ (by simp only [Act.put, List.setIfInBounds_toArray, List.set_cons_succ, List.set_cons_zero]; rfl) ?_)
                          | (refine wpQuiet_loadO 31 (.tmp 90) rfl g1 3 rfl (idV p.n p.d) _ R1.out Try.underlying31 rfl HII.out rfl _ (by simp only [Act.put, List.setIfInBounds_toArray, List.set_cons_succ, List.set_cons_zero]; rfl) ?_)
                          | (refine wpQuiet_loadO 31 (.tmp 95) rfl (ad.add (k * 5)).block ((ad.add (k * 5)).off + 3) rfl (idV q.n q.d) _ R2.out Try.underlying31 rfl HIQ.out rfl _ (by simp only [Act.put, List.setIfInBounds_toArray, List.set_cons_succ, List.set_cons_zero]; rfl) ?_)
                          | (go_big_quiet_step ((go_at_call 14; with_reducible exact ext_call (HAB.out _)))))
                        refine wpQuiet_nil ?_
                        rintro _ ⟨x, rfl⟩
                        have HBX := Lib.hid (HBQ.out.trans (x.bel.mono HBQ.out.size))
                        have HGX := Lib.hid (HG1.out.below x.bel HG1.out.lt)
                        have hox := HO3.out.next (HBY2.out.trans (x.bel.mono HBY2.out.size))
                        clear c1 c2 heq R1 R2
                        generalize x.wd = Yx at *
                        clear x
                        obtain rfl : ad = ⟨g, 0, none⟩ := HAD.out
                        obtain ⟨o1, o2, o3⟩ := own_set (p := p) hox HLT.out HBX.out.size
                        have o1 : Yx.there g (k * 5) (pcV p).size := o1
                        obtain ⟨YS, hYS⟩ : ∃ YS, YS = Yx.setCells g (k * 5) (pcV p).toList := ⟨_, rfl⟩
                        have o2 : OwnP YS w.heap.size (.slice (some ⟨g, 0, none⟩) M.length c) (M.set k p) := by rw [hYS]; exact o2
                        have o3 : Below w.heap.size Yx YS := by rw [hYS]; exact o3
                        have HYS := Lib.hid hYS
                        clear hYS
                        have O1 := Lib.hid o1
                        have O2 := Lib.hid o2
                        have O3 := Lib.hid o3
                        clear o1 o2 o3 hox
                        have hlt := HLT.out
                        go_wp2_with (first
                          | (refine wpList_loadA rfl 33 (.tmp 5) rfl ⟨g1, 0, none⟩ rfl (pcL p) _ (atA_blk HGX.out) Try.underlying33 rfl (pcLn p) ?_)
                          | (refine wpList_store_mid rfl 33 (.tmp 112) (.tmp 111) rfl g (k * 5) (pcV p) rfl rfl O1.out (pcInfo p) (pcV_one p) ?_; rw [← HYS.out]))
                        go_roundw
                        case rel =>
                          refine ⟨i + 1, by have := HIL.out; omega, by go_num, ?_, HBX.out.trans O3.out⟩
                          rw [HTK.out, HI1.out, hBT]
                          exact O2.out
                        case measure => have := HIL.out; simp [intOf]; omega
                      · rcases (show ((p.n == q.n) && (p.d == q.d)) = true ∨ ((p.n == q.n) && (p.d == q.d)) = false by cases ((p.n == q.n) && (p.d == q.d)) <;> simp) with hE | hE
                        · by_cases hV : q.v < p.v
                          · have hV2 : decide (q.v < p.v) = true := decide_eq_true hV
                            rw [hA, hE, hV2] at hBT
                            simp only [hE] at heq
                            simp only [hA] at hab
                            have HAB := Lib.hid hab
                            clear hab
                            go_upto_region 11 with fail
                            refine wp_region_class (Ext.wd (w0 := Yq)) (by kernel_rfl) (by kernel_rfl) (Ext.of (Below.refl _ _).drew) ?_
                            repeat (first
                              | go_big_quiet_skip
                              | (refine wpQuiet_loadO 31 (.tmp 81) rfl g1 3 rfl (idV p.n p.d) _ R1.out Try.underlying31 rfl HII.out rfl _ (by simp only [Act.put, List.setIfInBounds_toArray, List.set_cons_succ, List.set_cons_zero]; rfl) ?_)
                              | (refine wpQuiet_loadO 31 (.tmp 86) rfl (ad.add (k * 5)).block ((ad.add (k * 5)).off + 3) rfl (idV q.n q.d) _ R2.out Try.underlying31 rfl HIQ.out rfl _ (by simp only [Act.put, List.setIfInBounds_toArray, List.set_cons_succ, List.set_cons_zero]; rfl) ?_)
                              | (refine wpQuiet_loadO 31 (.tmp 90) rfl g1 3 rfl (idV p.n p.d) _ R1.out Try.underlying31 rfl HII.out rfl _ (by simp only [Act.put, List.setIfInBounds_toArray, List.set_cons_succ, List.set_cons_zero]; rfl) ?_)
                              | (refine wpQuiet_loadO 31 (.tmp 95) rfl (ad.add (k * 5)).block ((ad.add (k * 5)).off + 3) rfl (idV q.n q.d) _ R2.out Try.underlying31 rfl HIQ.out rfl _ (by simp only [Act.put, List.setIfInBounds_toArray, List.set_cons_succ, List.set_cons_zero]; rfl) ?_)
                              | (go_big_quiet_step ((go_at_call 14; with_reducible exact ext_call (HAB.out _)))))
                            refine wpQuiet_nil ?_
                            rintro _ ⟨x, rfl⟩
                            have HBX := Lib.hid (HBQ.out.trans (x.bel.mono HBQ.out.size))
                            have HGX := Lib.hid (HG1.out.below x.bel HG1.out.lt)
                            have hox := HO3.out.next (HBY2.out.trans (x.bel.mono HBY2.out.size))
                            clear c1 c2 heq R1 R2
                            generalize x.wd = Yx at *
                            clear x
                            obtain rfl : ad = ⟨g, 0, none⟩ := HAD.out
                            obtain ⟨o1, o2, o3⟩ := own_set (p := p) hox HLT.out HBX.out.size
                            have o1 : Yx.there g (k * 5) (pcV p).size := o1
                            obtain ⟨YS, hYS⟩ : ∃ YS, YS = Yx.setCells g (k * 5) (pcV p).toList := ⟨_, rfl⟩
                            have o2 : OwnP YS w.heap.size (.slice (some ⟨g, 0, none⟩) M.length c) (M.set k p) := by rw [hYS]; exact o2
                            have o3 : Below w.heap.size Yx YS := by rw [hYS]; exact o3
                            have HYS := Lib.hid hYS
                            clear hYS
                            have O1 := Lib.hid o1
                            have O2 := Lib.hid o2
                            have O3 := Lib.hid o3
                            clear o1 o2 o3 hox
                            have hlt := HLT.out
                            go_wp2_with (first
                              | (refine wpList_loadA rfl 33 (.tmp 5) rfl ⟨g1, 0, none⟩ rfl (pcL p) _ (atA_blk HGX.out) Try.underlying33 rfl (pcLn p) ?_)
                              | (refine wpList_store_mid rfl 33 (.tmp 112) (.tmp 111) rfl g (k * 5) (pcV p) rfl rfl O1.out (pcInfo p) (pcV_one p) ?_; rw [← HYS.out]))
                            go_roundw
                            case rel =>
                              refine ⟨i + 1, by have := HIL.out; omega, by go_num, ?_, HBX.out.trans O3.out⟩
                              rw [HTK.out, HI1.out, hBT]
                              exact O2.out
                            case measure => have := HIL.out; simp [intOf]; omega
                          · have hV2 : decide (q.v < p.v) = false := decide_eq_false hV
                            rw [hA, hE, hV2] at hBT
                            simp only [hE] at heq
                            simp only [hA] at hab
                            have HAB := Lib.hid hab
                            clear hab
                            go_upto_region 11 with fail
                            refine wp_region_class (Ext.wd (w0 := Yq)) (by kernel_rfl) (by kernel_rfl) (Ext.of (Below.refl _ _).drew) ?_
                            repeat (first
                              | go_big_quiet_skip
                              | (refine wpQuiet_loadO 31 (.tmp 81) rfl g1 3 rfl (idV p.n p.d) _ R1.out Try.underlying31 rfl HII.out rfl _ (by simp only [Act.put, List.setIfInBounds_toArray, List.set_cons_succ, List.set_cons_zero]; rfl) ?_)
                              | (refine wpQuiet_loadO 31 (.tmp 86) rfl (ad.add (k * 5)).block ((ad.add (k * 5)).off + 3) rfl (idV q.n q.d) _ R2.out Try.underlying31 rfl HIQ.out rfl _ (by simp only [Act.put, List.setIfInBounds_toArray, List.set_cons_succ, List.set_cons_zero]; rfl) ?_)
                              | (refine wpQuiet_loadO 31 (.tmp 90) rfl g1 3 rfl (idV p.n p.d) _ R1.out Try.underlying31 rfl HII.out rfl _ (by simp only [Act.put, List.setIfInBounds_toArray, List.set_cons_succ, List.set_cons_zero]; rfl) ?_)
                              | (refine wpQuiet_loadO 31 (.tmp 95) rfl (ad.add (k * 5)).block ((ad.add (k * 5)).off + 3) rfl (idV q.n q.d) _ R2.out Try.underlying31 rfl HIQ.out rfl _ (by simp only [Act.put, List.setIfInBounds_toArray, List.set_cons_succ, List.set_cons_zero]; rfl) ?_)
                              | (go_big_quiet_step ((go_at_call 14; with_reducible exact ext_call (HAB.out _)))))
                            refine wpQuiet_nil ?_
                            rintro _ ⟨x, rfl⟩
                            have HBX := Lib.hid (HBQ.out.trans (x.bel.mono HBQ.out.size))
                            have HGX := Lib.hid (HG1.out.below x.bel HG1.out.lt)
                            have hox := HO3.out.next (HBY2.out.trans (x.bel.mono HBY2.out.size))
                            clear c1 c2 heq R1 R2
                            generalize x.wd = Yx at *
                            clear x
                            have HOX := Lib.hid hox
                            clear hox
                            go_wp2_with fail
                            go_roundw
                            case rel =>
                              refine ⟨i + 1, by have := HIL.out; omega, by go_num, ?_, HBX.out⟩
                              rw [HTK.out, HI1.out, hBT]
                              exact HOX.out
                            case measure => have := HIL.out; simp [intOf]; omega
                        · rw [hA, hE, Bool.false_and] at hBT
                          simp only [hE] at heq
                          simp only [hA] at hab
                          have HAB := Lib.hid hab
                          clear hab
                          go_upto_region 11 with fail
                          refine wp_region_class (Ext.wd (w0 := Yq)) (by kernel_rfl) (by kernel_rfl) (Ext.of (Below.refl _ _).drew) ?_
                          repeat (first
                            | go_big_quiet_skip
                            | (refine wpQuiet_loadO 31 (.tmp 81) rfl g1 3 rfl (idV p.n p.d) _ R1.out Try.underlying31 rfl HII.out rfl _ (by simp only [Act.put, List.setIfInBounds_toArray, List.set_cons_succ, List.set_cons_zero]; rfl) ?_)
                            | (refine wpQuiet_loadO 31 (.tmp 86) rfl (ad.add (k * 5)).block ((ad.add (k * 5)).off + 3) rfl (idV q.n q.d) _ R2.out Try.underlying31 rfl HIQ.out rfl _ (by simp only [Act.put, List.setIfInBounds_toArray, List.set_cons_succ, List.set_cons_zero]; rfl) ?_)
                            | (refine wpQuiet_loadO 31 (.tmp 90) rfl g1 3 rfl (idV p.n p.d) _ R1.out Try.underlying31 rfl HII.out rfl _ (by simp only [Act.put, List.setIfInBounds_toArray, List.set_cons_succ, List.set_cons_zero]; rfl) ?_)
                            | (refine wpQuiet_loadO 31 (.tmp 95) rfl (ad.add (k * 5)).block ((ad.add (k * 5)).off + 3) rfl (idV q.n q.d) _ R2.out Try.underlying31 rfl HIQ.out rfl _ (by simp only [Act.put, List.setIfInBounds_toArray, List.set_cons_succ, List.set_cons_zero]; rfl) ?_)
                            | (go_big_quiet_step ((go_at_call 14; with_reducible exact ext_call (HAB.out _)))))
                          refine wpQuiet_nil ?_
                          rintro _ ⟨x, rfl⟩
                          have HBX := Lib.hid (HBQ.out.trans (x.bel.mono HBQ.out.size))
                          have HGX := Lib.hid (HG1.out.below x.bel HG1.out.lt)
                          have hox := HO3.out.next (HBY2.out.trans (x.bel.mono HBY2.out.size))
                          clear c1 c2 heq R1 R2
                          generalize x.wd = Yx at *
                          clear x
                          have HOX := Lib.hid hox
                          clear hox
                          go_wp2_with fail
                          go_roundw
                          case rel =>
                            refine ⟨i + 1, by have := HIL.out; omega, by go_num, ?_, HBX.out⟩
                            rw [HTK.out, HI1.out, hBT]
                            exact HOX.out
                          case measure => have := HIL.out; simp [intOf]; omega
                    · have INS := Lib.hid (HIM.out (by rw [HPR.out, hL, hS, hT1]; rfl) (by rw [HSP.out, hS, hQ]; rfl))
                      clear hT
                      go_upto_region 8 with fail
                      go_quiet (fail)
                      have HQ5 := Lib.hid (show AtA (wq.drewN nq) (ad.add (k * 5)) (pcL q) from (HQA.out.below (belowDrewN nq (Below.refl wq.heap.size wq)) (by rw [add_block]; exact Nat.lt_of_lt_of_le HGA.out HBQ0.out.size)))
                      have hbz := belowDrewN nq HBQ0.out
                      clear e0 e1 e2 e3 HQA HPA
                      generalize wq.drewN nq = Yz at *
                      have hpz := atA_blk (HG2.out.below hbz HG2.out.lt)
                      have e0 := HQ5.out.ser
                      have e1 := HQ5.out.timP
                      have e2 : Yz.cell? ⟨g1, 0, none⟩ = some (.string p.s) := hpz.ser
                      have e3 : Yz.cell? ⟨g1, 1, none⟩ = some (.int .i64 p.t) := hpz.timP
                      clear hpz
                      go_upto_region 10 with fail
                      go_quiet (fail)
                      have hby := belowDrewN nq hbz
                      generalize Yz.drewN nq = Yq at *
                      have HG1 := Lib.hid (HG2.out.below hby HG2.out.lt)
                      have HBQ := Lib.hid (HB2.out.trans (hby.mono HB2.out.size))
                      have HBY2 := Lib.hid hby
                      have RD1 := Lib.hid (show RdP Yq Yq.heap.size (some ad) (M.take k) by
                        have h := rdP_sub (HAT.out.below HBY2.out HGA.out) HGA.out 0 k
                        rw [List.drop_zero, show ad.add (0 * 5) = ad by simp [Addr.add]] at h
                        exact Rd.more (show Rd Yq Y2.heap.size (some ad) (pcs _) from h) HBY2.out.size)
                      have RD2 := Lib.hid (show RdP Yq Yq.heap.size (some (ad.add (k * 5))) (M.drop k) by
                        have h := rdP_sub (HAT.out.below HBY2.out HGA.out) HGA.out k (M.length - k)
                        rw [List.take_of_length_le (by rw [List.length_drop]; exact Nat.le_refl _)] at h
                        exact Rd.more (show Rd Yq Y2.heap.size _ (pcs _) from h) HBY2.out.size)
                      clear hby
                      have hlt := HLT.out
                      go_wp2_with (first
                        | (at_builtin; refine wpList_app _ rfl (.tmp 113) (.tmp 116) _ rfl Yq.heap.size 33 i0 (.agg zPc) 5 48 Try.underlying22 hi hz0 hz1 hz2 rfl (by decide) _ 0 [] rfl (OwnP.nilM _ _) Yq.heap.size (some ad) k c (pcs (M.take k)) rfl (tk5 (by omega)) (show Rd Yq Yq.heap.size (some ad) (pcs (M.take k)) from RD1.out) (pcs_oneCell _) (by omega) (by omega) (Nat.le_refl _) ?_
                           intro v1 U1 hap
                           have HU1 := Lib.hid (hap.below (OwnP.nilM _ _) (Nat.le_refl _))
                           have HV1 := Lib.hid (app_takeN hap (by omega))
                           clear hap)
                        | (refine wpList_loadA rfl 33 (.tmp 5) rfl ⟨g1, 0, none⟩ rfl (pcL p) _ (atA_blk (HG1.out.below HU1.out HG1.out.lt)) Try.underlying33 rfl (pcLn p) ?_)
                        | (refine wpList_valM rfl _ _ (run_onePc U1 p (.tmp 119) rfl (by kernel_rfl)) ?_)
                        | (at_builtin; refine wpList_app _ rfl (.tmp 118) (.tmp 120) _ rfl Yq.heap.size 33 i0 (.agg zPc) 5 48 Try.underlying22 hi hz0 hz1 hz2 rfl (by decide) _ (M.take k).length (pcs (M.take k)) rfl (HV1.out.allocM _) _ (some ⟨U1.heap.size, 0, none⟩) 1 1 (pcs [p]) rfl rfl (by exact rd_new U1 (pcs [p]) 33 (0, 0)) (pcs_oneCell _) (by rw [List.length_take]; omega) (by rw [List.length_take]; omega) (by have := HU1.out.size; simp; omega) ?_
                           intro v2 U2 hap
                           have HU2 := Lib.hid ((HU1.out.alloc HU1.out.size _).trans (hap.below (HV1.out.allocM _) (by have := HU1.out.size; simp; omega)))
                           have HV2 := Lib.hid (OwnP.appM (l := M.take k) (m := [p]) hap)
                           clear hap)
                        | (at_builtin; refine wpList_app _ rfl (.tmp 122) (.tmp 125) _ rfl Yq.heap.size 33 i0 (.agg zPc) 5 48 Try.underlying22 hi hz0 hz1 hz2 rfl (by decide) _ (M.take k ++ [p]).length (pcs (M.take k ++ [p])) rfl HV2.out Yq.heap.size (some (ad.add (k * 5))) (M.length - k) (c - k) (pcs (M.drop k)) rfl (dr5 _ _) (Rd.below (show Rd Yq Yq.heap.size _ (pcs (M.drop k)) from RD2.out) HU2.out) (pcs_oneCell _) (by rw [List.length_append, List.length_take]; simp; omega) (by rw [List.length_append, List.length_take]; simp; omega) HU2.out.size ?_
                           intro v3 U3 hap
                           have HU3 := Lib.hid (HU2.out.trans (hap.below HV2.out HU2.out.size))
                           have HV3 := Lib.hid (app_dropN hap)
                           clear hap))
                      go_roundw
                      case rel =>
                        refine ⟨i + 1, by have := HIL.out; omega, by go_num, ?_, HBQ.out.trans (HU3.out.mono HBQ.out.size)⟩
                        have h := own_base_le HV3.out HBQ.out.size
                        rw [HTK.out]
                        rw [INS.out]; exact h
                      case measure => have := HIL.out; simp [intOf]; omega
                · have INS := Lib.hid (HIM.out (by rw [HPR.out, hL, hS]; rfl) (by rw [HSP.out, hS]; rfl))
                  go_upto_region 8 with fail
                  go_quiet (fail)
                  have HQ5 := Lib.hid (show AtA (wq.drewN nq) (ad.add (k * 5)) (pcL q) from (HQA.out.below (belowDrewN nq (Below.refl wq.heap.size wq)) (by rw [add_block]; exact Nat.lt_of_lt_of_le HGA.out HBQ0.out.size)))
                  have hbz := belowDrewN nq HBQ0.out
                  clear e0 e1 e2 e3 HQA HPA
                  generalize wq.drewN nq = Yz at *
                  have hpz := atA_blk (HG2.out.below hbz HG2.out.lt)
                  have e0 := HQ5.out.ser
                  have e1 := HQ5.out.timP
                  have e2 : Yz.cell? ⟨g1, 0, none⟩ = some (.string p.s) := hpz.ser
                  have e3 : Yz.cell? ⟨g1, 1, none⟩ = some (.int .i64 p.t) := hpz.timP
                  clear hpz
                  go_upto_region 10 with fail
                  go_quiet (fail)
                  have hby := belowDrewN nq hbz
                  generalize Yz.drewN nq = Yq at *
                  have HG1 := Lib.hid (HG2.out.below hby HG2.out.lt)
                  have HBQ := Lib.hid (HB2.out.trans (hby.mono HB2.out.size))
                  have HBY2 := Lib.hid hby
                  have RD1 := Lib.hid (show RdP Yq Yq.heap.size (some ad) (M.take k) by
                    have h := rdP_sub (HAT.out.below HBY2.out HGA.out) HGA.out 0 k
                    rw [List.drop_zero, show ad.add (0 * 5) = ad by simp [Addr.add]] at h
                    exact Rd.more (show Rd Yq Y2.heap.size (some ad) (pcs _) from h) HBY2.out.size)
                  have RD2 := Lib.hid (show RdP Yq Yq.heap.size (some (ad.add (k * 5))) (M.drop k) by
                    have h := rdP_sub (HAT.out.below HBY2.out HGA.out) HGA.out k (M.length - k)
                    rw [List.take_of_length_le (by rw [List.length_drop]; exact Nat.le_refl _)] at h
                    exact Rd.more (show Rd Yq Y2.heap.size _ (pcs _) from h) HBY2.out.size)
                  clear hby
                  have hlt := HLT.out
                  go_wp2_with (first
                    | (at_builtin; refine wpList_app _ rfl (.tmp 113) (.tmp 116) _ rfl Yq.heap.size 33 i0 (.agg zPc) 5 48 Try.underlying22 hi hz0 hz1 hz2 rfl (by decide) _ 0 [] rfl (OwnP.nilM _ _) Yq.heap.size (some ad) k c (pcs (M.take k)) rfl (tk5 (by omega)) (show Rd Yq Yq.heap.size (some ad) (pcs (M.take k)) from RD1.out) (pcs_oneCell _) (by omega) (by omega) (Nat.le_refl _) ?_
                       intro v1 U1 hap
                       have HU1 := Lib.hid (hap.below (OwnP.nilM _ _) (Nat.le_refl _))
                       have HV1 := Lib.hid (app_takeN hap (by omega))
                       clear hap)
                    | (refine wpList_loadA rfl 33 (.tmp 5) rfl ⟨g1, 0, none⟩ rfl (pcL p) _ (atA_blk (HG1.out.below HU1.out HG1.out.lt)) Try.underlying33 rfl (pcLn p) ?_)
                    | (refine wpList_valM rfl _ _ (run_onePc U1 p (.tmp 119) rfl (by kernel_rfl)) ?_)
                    | (at_builtin; refine wpList_app _ rfl (.tmp 118) (.tmp 120) _ rfl Yq.heap.size 33 i0 (.agg zPc) 5 48 Try.underlying22 hi hz0 hz1 hz2 rfl (by decide) _ (M.take k).length (pcs (M.take k)) rfl (HV1.out.allocM _) _ (some ⟨U1.heap.size, 0, none⟩) 1 1 (pcs [p]) rfl rfl (by exact rd_new U1 (pcs [p]) 33 (0, 0)) (pcs_oneCell _) (by rw [List.length_take]; omega) (by rw [List.length_take]; omega) (by have := HU1.out.size; simp; omega) ?_
                       intro v2 U2 hap
                       have HU2 := Lib.hid ((HU1.out.alloc HU1.out.size _).trans (hap.below (HV1.out.allocM _) (by have := HU1.out.size; simp; omega)))
                       have HV2 := Lib.hid (OwnP.appM (l := M.take k) (m := [p]) hap)
                       clear hap)
                    | (at_builtin; refine wpList_app _ rfl (.tmp 122) (.tmp 125) _ rfl Yq.heap.size 33 i0 (.agg zPc) 5 48 Try.underlying22 hi hz0 hz1 hz2 rfl (by decide) _ (M.take k ++ [p]).length (pcs (M.take k ++ [p])) rfl HV2.out Yq.heap.size (some (ad.add (k * 5))) (M.length - k) (c - k) (pcs (M.drop k)) rfl (dr5 _ _) (Rd.below (show Rd Yq Yq.heap.size _ (pcs (M.drop k)) from RD2.out) HU2.out) (pcs_oneCell _) (by rw [List.length_append, List.length_take]; simp; omega) (by rw [List.length_append, List.length_take]; simp; omega) HU2.out.size ?_
                       intro v3 U3 hap
                       have HU3 := Lib.hid (HU2.out.trans (hap.below HV2.out HU2.out.size))
                       have HV3 := Lib.hid (app_dropN hap)
                       clear hap))
                  go_roundw
                  case rel =>
                    refine ⟨i + 1, by have := HIL.out; omega, by go_num, ?_, HBQ.out.trans (HU3.out.mono HBQ.out.size)⟩
                    have h := own_base_le HV3.out HBQ.out.size
                    rw [HTK.out]
                    rw [INS.out]; exact h
                  case measure => have := HIL.out; simp [intOf]; omega
            · obtain rfl : k = M.length := by omega
              have q1 : ¬ (M.length : Int) < (M.length : Int) := by omega
              have r6 : (M.length : Int) ≤ (c : Int) := by omega
              have r7 : (M.length : Int) ≤ (M.length : Int) := by omega
              have r8 : (0 : Int) ≤ (M.length : Int) := by omega
              have r9 : decide ((M.length : Int) < 0) = false := decide_eq_false (by omega)
              have INS := Lib.hid (show insP p M = M.take M.length ++ [p] ++ ([] : List Pc).drop 0 by rw [ins_end hah]; simp)
              have HBQ0 := Lib.hid hbq
              clear hah hbq hkl hlt
              by_cases hcc : c = M.length
              · subst hcc
                go_upto_region 8 with fail
                go_quiet (fail)
                have hbz := belowDrewN nq HBQ0.out
                generalize wq.drewN nq = Yz at *
                go_upto_region 10 with fail
                go_quiet (fail)
                have hby := belowDrewN nq hbz
                generalize Yz.drewN nq = Yq at *
                have HG1 := Lib.hid (HG2.out.below hby HG2.out.lt)
                have HBQ := Lib.hid (HB2.out.trans (hby.mono HB2.out.size))
                have HBY2 := Lib.hid hby
                have RD1 := Lib.hid (show RdP Yq Yq.heap.size (some ad) (M.take M.length) by
                  have h := rdP_sub (HAT.out.below HBY2.out HGA.out) HGA.out 0 M.length
                  rw [List.drop_zero, show ad.add (0 * 5) = ad by simp [Addr.add]] at h
                  exact Rd.more (show Rd Yq Y2.heap.size (some ad) (pcs _) from h) HBY2.out.size)
                have RD2 := Lib.hid (show RdP Yq Yq.heap.size (some ad) (M.drop M.length) by
                  intro h
                  exact absurd (by rw [List.drop_length]; rfl) h)
                clear hby
                go_wp2_with (first
                  | (at_builtin; refine wpList_app _ rfl (.tmp 113) (.tmp 116) _ rfl Yq.heap.size 33 i0 (.agg zPc) 5 48 Try.underlying22 hi hz0 hz1 hz2 rfl (by decide) _ 0 [] rfl (OwnP.nilM _ _) Yq.heap.size (some ad) M.length M.length (pcs (M.take M.length)) rfl (tk5 (by omega)) (show Rd Yq Yq.heap.size (some ad) (pcs (M.take M.length)) from RD1.out) (pcs_oneCell _) (by omega) (by omega) (Nat.le_refl _) ?_
                     intro v1 U1 hap
                     have HU1 := Lib.hid (hap.below (OwnP.nilM _ _) (Nat.le_refl _))
                     have HV1 := Lib.hid (app_takeN hap (by omega))
                     clear hap)
                  | (refine wpList_loadA rfl 33 (.tmp 5) rfl ⟨g1, 0, none⟩ rfl (pcL p) _ (atA_blk (HG1.out.below HU1.out HG1.out.lt)) Try.underlying33 rfl (pcLn p) ?_)
                  | (refine wpList_valM rfl _ _ (run_onePc U1 p (.tmp 119) rfl (by kernel_rfl)) ?_)
                  | (at_builtin; refine wpList_app _ rfl (.tmp 118) (.tmp 120) _ rfl Yq.heap.size 33 i0 (.agg zPc) 5 48 Try.underlying22 hi hz0 hz1 hz2 rfl (by decide) _ (M.take M.length).length (pcs (M.take M.length)) rfl (HV1.out.allocM _) _ (some ⟨U1.heap.size, 0, none⟩) 1 1 (pcs [p]) rfl rfl (by exact rd_new U1 (pcs [p]) 33 (0, 0)) (pcs_oneCell _) (by rw [List.length_take]; omega) (by rw [List.length_take]; omega) (by have := HU1.out.size; simp; omega) ?_
                     intro v2 U2 hap
                     have HU2 := Lib.hid ((HU1.out.alloc HU1.out.size _).trans (hap.below (HV1.out.allocM _) (by have := HU1.out.size; simp; omega)))
                     have HV2 := Lib.hid (OwnP.appM (l := M.take M.length) (m := [p]) hap)
                     clear hap)
                  | (at_builtin; refine wpList_app _ rfl (.tmp 122) (.tmp 125) _ rfl Yq.heap.size 33 i0 (.agg zPc) 5 48 Try.underlying22 hi hz0 hz1 hz2 rfl (by decide) _ (M.take M.length ++ [p]).length (pcs (M.take M.length ++ [p])) rfl HV2.out Yq.heap.size (some ad) 0 0 (pcs (([] : List Pc).drop 0)) rfl rfl (by exact Rd.nil_ _ _ _) (pcs_oneCell _) (by rw [List.length_append, List.length_take]; simp; omega) (by rw [List.length_append, List.length_take]; simp; omega) HU2.out.size ?_
                     intro v3 U3 hap
                     have HU3 := Lib.hid (HU2.out.trans (hap.below HV2.out HU2.out.size))
                     have HV3 := Lib.hid (app_dropN (M := []) (k := 0) hap)
                     clear hap))
                go_roundw
                case rel =>
                  refine ⟨i + 1, by have := HIL.out; omega, by go_num, ?_, HBQ.out.trans (HU3.out.mono HBQ.out.size)⟩
                  have h := own_base_le HV3.out HBQ.out.size
                  rw [HTK.out]
                  rw [INS.out]; exact h
                case measure => have := HIL.out; simp [intOf]; omega
              · have rA : ¬ c = M.length := hcc
                clear hcc
                go_upto_region 8 with fail
                go_quiet (fail)
                have hbz := belowDrewN nq HBQ0.out
                generalize wq.drewN nq = Yz at *
                go_upto_region 10 with fail
                go_quiet (fail)
                have hby := belowDrewN nq hbz
                generalize Yz.drewN nq = Yq at *
                have HG1 := Lib.hid (HG2.out.below hby HG2.out.lt)
                have HBQ := Lib.hid (HB2.out.trans (hby.mono HB2.out.size))
                have HBY2 := Lib.hid hby
                have RD1 := Lib.hid (show RdP Yq Yq.heap.size (some ad) (M.take M.length) by
                  have h := rdP_sub (HAT.out.below HBY2.out HGA.out) HGA.out 0 M.length
                  rw [List.drop_zero, show ad.add (0 * 5) = ad by simp [Addr.add]] at h
                  exact Rd.more (show Rd Yq Y2.heap.size (some ad) (pcs _) from h) HBY2.out.size)
                have RD2 := Lib.hid (show RdP Yq Yq.heap.size (some (ad.add (M.length * 5))) (M.drop M.length) by
                  have h := rdP_sub (HAT.out.below HBY2.out HGA.out) HGA.out M.length (M.length - M.length)
                  rw [List.take_of_length_le (by rw [List.length_drop]; exact Nat.le_refl _)] at h
                  exact Rd.more (show Rd Yq Y2.heap.size _ (pcs _) from h) HBY2.out.size)
                clear hby
                go_wp2_with (first
                  | (at_builtin; refine wpList_app _ rfl (.tmp 113) (.tmp 116) _ rfl Yq.heap.size 33 i0 (.agg zPc) 5 48 Try.underlying22 hi hz0 hz1 hz2 rfl (by decide) _ 0 [] rfl (OwnP.nilM _ _) Yq.heap.size (some ad) M.length c (pcs (M.take M.length)) rfl (tk5 (by omega)) (show Rd Yq Yq.heap.size (some ad) (pcs (M.take M.length)) from RD1.out) (pcs_oneCell _) (by omega) (by omega) (Nat.le_refl _) ?_
                     intro v1 U1 hap
                     have HU1 := Lib.hid (hap.below (OwnP.nilM _ _) (Nat.le_refl _))
                     have HV1 := Lib.hid (app_takeN hap (by omega))
                     clear hap)
                  | (refine wpList_loadA rfl 33 (.tmp 5) rfl ⟨g1, 0, none⟩ rfl (pcL p) _ (atA_blk (HG1.out.below HU1.out HG1.out.lt)) Try.underlying33 rfl (pcLn p) ?_)
                  | (refine wpList_valM rfl _ _ (run_onePc U1 p (.tmp 119) rfl (by kernel_rfl)) ?_)
                  | (at_builtin; refine wpList_app _ rfl (.tmp 118) (.tmp 120) _ rfl Yq.heap.size 33 i0 (.agg zPc) 5 48 Try.underlying22 hi hz0 hz1 hz2 rfl (by decide) _ (M.take M.length).length (pcs (M.take M.length)) rfl (HV1.out.allocM _) _ (some ⟨U1.heap.size, 0, none⟩) 1 1 (pcs [p]) rfl rfl (by exact rd_new U1 (pcs [p]) 33 (0, 0)) (pcs_oneCell _) (by rw [List.length_take]; omega) (by rw [List.length_take]; omega) (by have := HU1.out.size; simp; omega) ?_
                     intro v2 U2 hap
                     have HU2 := Lib.hid ((HU1.out.alloc HU1.out.size _).trans (hap.below (HV1.out.allocM _) (by have := HU1.out.size; simp; omega)))
                     have HV2 := Lib.hid (OwnP.appM (l := M.take M.length) (m := [p]) hap)
                     clear hap)
                  | (at_builtin; refine wpList_app _ rfl (.tmp 122) (.tmp 125) _ rfl Yq.heap.size 33 i0 (.agg zPc) 5 48 Try.underlying22 hi hz0 hz1 hz2 rfl (by decide) _ (M.take M.length ++ [p]).length (pcs (M.take M.length ++ [p])) rfl HV2.out Yq.heap.size (some (ad.add (M.length * 5))) 0 (c - M.length) (pcs (([] : List Pc).drop 0)) rfl rfl (by exact Rd.nil_ _ _ _) (pcs_oneCell _) (by rw [List.length_append, List.length_take]; simp; omega) (by rw [List.length_append, List.length_take]; simp; omega) HU2.out.size ?_
                     intro v3 U3 hap
                     have HU3 := Lib.hid (HU2.out.trans (hap.below HV2.out HU2.out.size))
                     have HV3 := Lib.hid (app_dropN (M := []) (k := 0) hap)
                     clear hap))
                go_roundw
                case rel =>
                  refine ⟨i + 1, by have := HIL.out; omega, by go_num, ?_, HBQ.out.trans (HU3.out.mono HBQ.out.size)⟩
                  have h := own_base_le HV3.out HBQ.out.size
                  rw [HTK.out]
                  rw [INS.out]; exact h
                case measure => have := HIL.out; simp [intOf]; omega
      · rw [if_neg hck] at htk
        have HTK := Lib.hid htk
        have hckf : ckP p = false := by simpa using hck
        rw [hckf] at HRC
        clear htk hck hlt hckf
        go_wp2_with (first
          | (refine wpList_loadA rfl 33 (.tmp 5) rfl ⟨g1, 0, none⟩ rfl (pcL p) _ (atA_blk HG0.out) Try.underlying33 rfl (pcLn p) ?_)
          | (go_at_call 13; (refine (HRC.out Y).mono ?_); rintro e Y2 ⟨rfl, hb⟩; have HYY := Lib.hid hb; clear hb))
        go_roundw
        case rel => exact ⟨i + 1, by have := HIL.out; omega, by go_num, by rw [HTK.out]; exact HOY.out.next HYY.out, HBY.out.trans (HYY.out.mono HBY.out.size)⟩
        case measure => have := HIL.out; simp [intOf]; omega
    · obtain rfl : i = l.length := by omega
      have q1 : ¬ (l.length : Int) < (l.length : Int) := by omega
      rw [List.take_length] at ho
      have HO := Lib.hid ho
      have HB := Lib.hid hb
      clear ho hb
      go_wp2_with fail
      go_ret
      exact ⟨_, rfl, HO.out, HB.out⟩
end Go.Proofs.Ytihbjnjpomljjaa
/- Contract: whether pieces may be laid, by the document. -/
namespace Go.Proofs.Ytihbjnjpomljjaa
set_option maxRecDepth 100000
open Go.RowKit
set_option linter.unusedVariables false
set_option linter.unusedSimpArgs false
theorem okAt_zero' (l : List Pc) : okAt l 0 = ckP (l.getD 0 pc0) := by unfold okAt; simp
theorem okAt_succ' (l : List Pc) (j : Nat) : okAt l (j + 1) = (ckP (l.getD (j + 1) pc0) && okPair (l.getD j pc0) (l.getD (j + 1) pc0)) := by unfold okAt; simp
theorem AtA.tim' {w : World} {a : Addr} {p : Pc} (h : AtA w a (pcL p)) : w.cell? ⟨a.block, a.off + 1, none⟩ = some (.int .i64 p.t) := h 1 _ rfl
set_option maxRecDepth 100000 in
set_option maxHeartbeats 4000000 in
theorem rcheck_c (A : Option Addr) (c : Nat) (l : List Pc) (w : World) (hr : RdP w w.heap.size A l) (h1 : l.length ≤ 100000) (hs : ∀ p ∈ l, p.s.size ≤ 1000000) :
    Calls Try.prog 7 #[.slice A l.length c] w fun e w' => e = .returned (.int .i64 (chkL l : Nat)) ∧ Below w.heap.size w w' := by
  have HR := Lib.hid hr
  have HRC := Lib.hid (rroom_c w.heap.size A c l w hr (by omega) hs)
  have HSZ := Lib.hid (show ∀ k, (l.getD k pc0).s.size ≤ 1000000 from fun k => by
    rcases Nat.lt_or_ge k l.length with h | h
    · exact hs _ (by simp [List.getD_eq_getElem?_getD, h])
    · rw [List.getD_eq_getElem?_getD, List.getElem?_eq_none h]; decide)
  have HCH := Lib.hid (show chkL l = if 256 < l.length ∨ 4096 < roomL l then 3 else if okTo l l.length then 0 else 1 from rfl)
  obtain ⟨r, hr'⟩ : ∃ r, r = chkL l := ⟨_, rfl⟩
  rw [← hr'] at HCH ⊢
  clear hr hs hr'
  by_cases hg : 256 < l.length
  · have HRV := Lib.hid (show r = 3 by rw [HCH.out, if_pos (.inl hg)])
    have p1 : decide ((256 : Int) < (l.length : Int)) = true := decide_eq_true (by omega)
    go_enter Try.func7, Try.ntmps7
    go_wp2_with fail
    go_ret
    exact ⟨by rw [HRV.out]; rfl, Below.refl _ _⟩
  · have p1 : decide ((256 : Int) < (l.length : Int)) = false := decide_eq_false (by omega)
    by_cases hg2 : 4096 < roomL l
    · have HRV := Lib.hid (show r = 3 by rw [HCH.out, if_pos (.inr hg2)])
      have p2 : decide ((4096 : Int) < ((roomL l : Nat) : Int)) = true := decide_eq_true (by omega)
      generalize roomL l = rm at *
      clear hg
      go_enter Try.func7, Try.ntmps7
      go_wp2_with (go_at_call 12; (refine HRC.out.mono ?_); rintro e W1 ⟨rfl, q1, rfl⟩)
      go_ret
      exact ⟨by rw [HRV.out]; rfl, belowDrewN q1 (Below.refl _ _)⟩
    · have HRV := Lib.hid (show r = if okTo l l.length then 0 else 1 by rw [HCH.out, if_neg (by omega)])
      have p2 : decide ((4096 : Int) < ((roomL l : Nat) : Int)) = false := decide_eq_false (by omega)
      have hlen : l.length ≤ 256 := by omega
      generalize roomL l = rm at *
      clear hg hg2
      go_enter Try.func7, Try.ntmps7
      go_wp2_with (go_at_call 12; (refine HRC.out.mono ?_); rintro e W1 ⟨rfl, q1, rfl⟩)
      have HB1 := Lib.hid (belowDrewN q1 (Below.refl w.heap.size w))
      generalize w.drewN q1 = W1 at *
      go_loopw [3] (fun i wr => ∃ k : Nat, k ≤ l.length ∧ i = .int .i64 k ∧ okTo l k = true ∧ Below w.heap.size w wr) (fun i _ => l.length - (intOf i).toNat)
      case atStart => exact ⟨0, Nat.zero_le _, rfl, rfl, HB1.out⟩
      case round =>
        rename World => wr
        obtain ⟨k, hk, rfl, hok, hb⟩ := hrel
        have HOK := Lib.hid hok
        have HB := Lib.hid hb
        clear hok hb HB1 p1 p2
        by_cases hlt : k < l.length
        · have q1 : (k : Int) < (l.length : Int) := by omega
          have hrr := HR.out
          obtain ⟨ad, rfl, hab, hat⟩ := hrr.open_ (by omega)
          have HAT := Lib.hid (hat.below HB.out hab)
          have HAB := Lib.hid (show ad.block < wr.heap.size from Nat.lt_of_lt_of_le hab HB.out.size)
          have HPA := Lib.hid (HAT.out.piece k hlt)
          have HPI := Lib.hid (pcLn (l.getD k pc0))
          have HPC := Lib.hid (fun W => rpcheck_c (l.getD k pc0) W (by have := HSZ.out k; omega))
          have HNO := Lib.hid (okTo_not l k l.length hlt)
          have HNX := Lib.hid (okTo_succ l k)
          have HO0 := Lib.hid (show k = 0 → okAt l k = ckP (l.getD k pc0) from fun h => by rw [h]; exact okAt_zero' l)
          have HOJ := Lib.hid (show ∀ j, k = j + 1 → okAt l k = (ckP (l.getD k pc0) && okPair (l.getD j pc0) (l.getD k pc0)) from fun j h => by rw [h]; exact okAt_succ' l j)
          clear hat hab hrr
          generalize l.getD k pc0 = p at *
          by_cases hck : ckP p = true
          · rw [hck] at HPC
            go_upto_region 8 with (first
              | (refine wpList_loadA rfl 33 (.tmp 20) rfl (ad.add (k * 5)) rfl (pcL p) _ HPA.out Try.underlying33 rfl HPI.out ?_)
              | (go_at_call 13; (refine (HPC.out wr).mono ?_); rintro e W2 ⟨rfl, hb2⟩; have HW2 := Lib.hid hb2; clear hb2))
            have HT2 := Lib.hid (HB.out.trans (HW2.out.mono HB.out.size))
            have HPB := Lib.hid (HPA.out.below HW2.out (by rw [add_block]; exact HAB.out))
            rcases Nat.eq_zero_or_pos k with h0 | h0
            · have d0 : decide (0 < k) = false := decide_eq_false (by omega)
              have HOKN := Lib.hid (show okTo l (k + 1) = true by rw [HNX.out, HOK.out, HO0.out h0, hck]; rfl)
              clear h0 hck
              go_quiet (fail)
              have HW3 := Lib.hid (belowDrewN nq HT2.out)
              generalize W2.drewN nq = Y2 at *
              go_wp2_with fail
              go_roundw
              case rel => exact ⟨k + 1, by omega, by go_num, HOKN.out, HW3.out⟩
              case measure => simp only [intOf]; omega
            · obtain ⟨j, hj⟩ : ∃ j, k = j + 1 := ⟨k - 1, by omega⟩
              have d0 : decide (0 < k) = true := decide_eq_true (by omega)
              have fj : IntKind.i64.wrap ((k : Int) - 1) = (j : Int) := by rw [IntWalk.i64_in _ (by omega)]; omega
              have hjl : (j : Int) < (l.length : Int) := by omega
              have hj0 : (0 : Int) ≤ (j : Int) := by omega
              have HQA := Lib.hid (((HAT.out.below HW2.out HAB.out)).piece j (by omega))
              have HOK2 := Lib.hid (show okAt l k = okPair (l.getD j pc0) p by rw [HOJ.out j hj, hck]; rfl)
              clear hj h0 hck HOJ HO0
              generalize l.getD j pc0 = q at *
              have e0 := HQA.out.ser
              have e1 := HQA.out.tim'
              have e2 := HPB.out.ser
              have e3 := HPB.out.tim'
              have HPR := Lib.hid (show okPair q p = (Op.bytesLess q.s.toList p.s.toList || (q.s.toList == p.s.toList && decide (q.t < p.t))) from rfl)
              rcases (show Op.bytesLess p.s.toList q.s.toList = true ∨ Op.bytesLess p.s.toList q.s.toList = false by cases Op.bytesLess p.s.toList q.s.toList <;> simp) with hL | hL
              · have HBADN := Lib.hid (show r = 1 by
                  rw [HRV.out, HNO.out (by
                    rw [HOK2.out, HPR.out, bless_asym _ _ hL, Bool.false_or]
                    have : (q.s.toList == p.s.toList) = false := by
                      rw [beq_eq_false_iff_ne]
                      intro h; rw [h, bless_irr] at hL; cases hL
                    rw [this]; rfl)]
                  rfl)
                go_quiet (fail)
                have HW3 := Lib.hid (belowDrewN nq HT2.out)
                generalize W2.drewN nq = Y2 at *
                go_wp2_with fail
                go_ret
                exact ⟨by rw [HBADN.out]; rfl, HW3.out⟩
              · rcases (show (p.s.toList == q.s.toList) = true ∨ (p.s.toList == q.s.toList) = false by cases (p.s.toList == q.s.toList) <;> simp) with hS | hS
                · have hS2 : (q.s.toList == p.s.toList) = true := by rw [beq_iff_eq] at hS ⊢; exact hS.symm
                  have hL2 : Op.bytesLess q.s.toList p.s.toList = false := by rw [beq_iff_eq] at hS; rw [hS]; exact bless_irr _
                  by_cases hT : p.t ≤ q.t
                  · have hT1 : decide (p.t ≤ q.t) = true := decide_eq_true hT
                    have HBADN := Lib.hid (show r = 1 by rw [HRV.out, HNO.out (by rw [HOK2.out, HPR.out, hL2, hS2, decide_eq_false (show ¬ q.t < p.t by omega)]; rfl)]; rfl)
                    clear hT hS2 hL2
                    go_quiet (fail)
                    have HW3 := Lib.hid (belowDrewN nq HT2.out)
                    generalize W2.drewN nq = Y2 at *
                    go_wp2_with fail
                    go_ret
                    exact ⟨by rw [HBADN.out]; rfl, HW3.out⟩
                  · have hT1 : decide (p.t ≤ q.t) = false := decide_eq_false hT
                    have HOKN := Lib.hid (show okTo l (k + 1) = true by rw [HNX.out, HOK.out, HOK2.out, HPR.out, hS2, decide_eq_true (show q.t < p.t by omega)]; simp)
                    clear hT hS2 hL2
                    go_quiet (fail)
                    have HW3 := Lib.hid (belowDrewN nq HT2.out)
                    generalize W2.drewN nq = Y2 at *
                    go_wp2_with fail
                    go_roundw
                    case rel => exact ⟨k + 1, by omega, by go_num, HOKN.out, HW3.out⟩
                    case measure => simp only [intOf]; omega
                · have HOKN := Lib.hid (show okTo l (k + 1) = true by
                    rw [HNX.out, HOK.out, HOK2.out, HPR.out, bless_tri _ _ (by rw [beq_eq_false_iff_ne] at hS; exact hS) hL]; rfl)
                  go_quiet (fail)
                  have HW3 := Lib.hid (belowDrewN nq HT2.out)
                  generalize W2.drewN nq = Y2 at *
                  go_wp2_with fail
                  go_roundw
                  case rel => exact ⟨k + 1, by omega, by go_num, HOKN.out, HW3.out⟩
                  case measure => simp only [intOf]; omega
          · have hck' : ckP p = false := by simpa using hck
            rw [hck'] at HPC
            have HRV1 := Lib.hid (show r = 1 by
              rw [HRV.out, HNO.out (by
                rcases Nat.eq_zero_or_pos k with h | h
                · rw [HO0.out h, hck']
                · rw [HOJ.out (k - 1) (by omega), hck', Bool.false_and])]
              rfl)
            clear hck hck'
            go_wp2_with (first
              | (refine wpList_loadA rfl 33 (.tmp 20) rfl (ad.add (k * 5)) rfl (pcL p) _ HPA.out Try.underlying33 rfl HPI.out ?_)
              | (go_at_call 13; (refine (HPC.out wr).mono ?_); rintro e W2 ⟨rfl, hb2⟩; have HW2 := Lib.hid (HB.out.trans (hb2.mono HB.out.size)); clear hb2))
            go_ret
            exact ⟨by rw [HRV1.out]; rfl, HW2.out⟩
        · obtain rfl : k = l.length := by omega
          have HRV1 := Lib.hid (show r = 0 by rw [HRV.out, HOK.out]; rfl)
          go_wp2_with fail
          go_ret
          exact ⟨by rw [HRV1.out]; rfl, HB.out⟩
end Go.Proofs.Ytihbjnjpomljjaa
/- Regions that draw their order, some of whose operations make memory: what only looks is taken first. -/
namespace Go.Proofs.Ytihbjnjpomljjaa
set_option maxRecDepth 100000
open Go.RowKit
set_option linter.unusedVariables false
set_option linter.unusedSimpArgs false
section
variable {P : Program} {ops : Array Oper} {md : Region.Mode} {S : World → Prop} {Q : Exit → Act → World → Prop}
theorem plain_value {o : Oper} {b : Act} {w : World} {v : Value} (hp : plainOp o.op = true) (h : o.quietAt P b S w v) : (execOp b.eval o).run P w = .ok (.value v) w := by
  unfold Oper.quietAt at h
  have hne := plain_run (P := P) (ρ := b.eval) hp w
  have hnk : ∀ w', (execOp b.eval o).run P w ≠ .ok .skip w' := by
    obtain ⟨dst, op, type, pos, after, guard⟩ := o
    have key : ∀ {α : Type} (s : Sem α) (g : α → Value) (w' : World), ((do pure (.value (g (← s))) : Sem Next)).run P w ≠ .ok .skip w' := by
      intro α s g w'
      rw [Sem.run_bind]
      cases s.run P w with
      | ok u w1 => simp [Result.andThen]
      | halt x w1 => simp [Result.andThen]
    intro w'
    cases op <;> simp only [plainOp] at hp <;> (try cases hp)
    case move x => simp [execOp]
    case assign x => simp [execOp]
    case pick c x y => exact key (asBool (b.eval c)) (fun t => if t then b.eval x else b.eval y) w'
    all_goals exact key _ (fun t => t) w'
  generalize (execOp b.eval o).run P w = r at *
  cases r with
  | ok n w' =>
    cases n <;> simp only [Oper.quietUpon] at h
    case value u => rw [h.1, h.2]
    case skip => exact absurd rfl (hnk w')
    case enter f args => exact absurd rfl (hne w' f args)
  | halt x w' => simp only [Oper.quietUpon] at h
/-- what only looks, first -/
theorem anyH_quiet (i : Nat) {oi : Oper} {fuel : Nat} {listed : Array Bool} {a : Act} {w : World} (hi : ops[i]? = some oi) (hs : Region.noSelect ops = true) (hf : Region.free md ops listed i = true) (hr : (Region.ready md ops listed).contains i = true)
    (hQ : ∀ v c a w, Q (.panic c) (a.put oi.dst v) w → Q (.panic c) a w) (hw : Region.wanted oi (yielded ops a.tmps) = true) (hp : plainOp oi.op = true) (hS : S w)
    (h : ∀ K : Act → Prop, (∀ a', wpAnyH P md ops Q S fuel (listed.setIfInBounds i true) a' w → K a') → oi.quiet P a S K) : wpAnyH P md ops Q S (fuel + 1) listed a w := by
  obtain ⟨v, h1, h2⟩ := h _ (fun _ h => h)
  exact wpAnyH_take hi hs hf hr (hQ v) (.inl ⟨hw, fun w' hw' => plain_value hp (h1 w' hw')⟩) hS h2
/-- the only one that may come up -/
theorem anyH_op (i : Nat) {o : Oper} {fuel : Nat} {listed : Array Bool} {a : Act} {w : World} (hr : Region.ready md ops listed = [i]) (hi : ops[i]? = some o) (hw : Region.wanted o (yielded ops a.tmps) = true)
    (h : o.wp P a w (fun a' w' => S w' ∧ wpAnyH P md ops Q S fuel (listed.setIfInBounds i true) a' w') Q) : wpAnyH P md ops Q S (fuel + 1) listed a w := by
  refine wpAnyH_all hr (by simp) fun j hj => ?_
  obtain rfl := List.mem_singleton.1 hj
  unfold wpOp
  simp only [hi, hw, if_true]
  exact .inl h
/-- one of two -/
theorem anyH_two (i j : Nat) {o p : Oper} {fuel : Nat} {listed : Array Bool} {a : Act} {w : World} (hr : Region.ready md ops listed = [i, j]) (hi : ops[i]? = some o) (hj : ops[j]? = some p) (hw : Region.wanted o (yielded ops a.tmps) = true) (hv : Region.wanted p (yielded ops a.tmps) = true)
    (h : o.wp P a w (fun a' w' => S w' ∧ wpAnyH P md ops Q S fuel (listed.setIfInBounds i true) a' w') Q) (h' : p.wp P a w (fun a' w' => S w' ∧ wpAnyH P md ops Q S fuel (listed.setIfInBounds j true) a' w') Q) : wpAnyH P md ops Q S (fuel + 1) listed a w := by
  refine wpAnyH_all hr (by simp) fun k hk => ?_
  rcases List.mem_cons.1 hk with rfl | hk
  · unfold wpOp
    simp only [hi, hw, if_true]
    exact .inl h
  · obtain rfl := List.mem_singleton.1 hk
    unfold wpOp
    simp only [hj, hv, if_true]
    exact .inl h'
/-- an operation whose run is told -/
theorem op_value {o : Oper} {a : Act} {w w' : World} {v : Value} {K : Act → World → Prop} (hrun : (execOp a.eval o).run P w = .ok (.value v) w') (a' : Act) (ha : a.put o.dst v = a') (h : K a' w') : o.wp P a w K Q := by
  subst ha
  unfold Oper.wp
  rw [hrun]
  exact h
/-- a call -/
theorem op_call {o : Oper} {a : Act} {w : World} {f : FuncId} {args : Array Value} {K : Act → World → Prop} (hrun : (execOp a.eval o).run P w = .ok (.enter f args) w) (a' : Value → Act) (ha : ∀ v, a.put o.dst v = a' v) (hc : Calls P f args w fun e w' => ∃ v, e = .returned v ∧ K (a' v) w') : o.wp P a w K Q := by
  unfold Oper.wp
  rw [hrun]
  refine Calls.mono hc ?_
  rintro e w' ⟨v, rfl, h⟩
  show K (a.put o.dst v) w'
  rw [ha]
  exact h
end
theorem op_convert {o : Oper} {a : Act} {w w' : World} {t1 t2 : TypeId} {x : Operand} {v u : Value} (ho : o.op = .convert t1 t2 x) (hx : a.eval x = v) (hrun : (convert t1 t2 v).run Try.prog w = .ok u w') : (execOp a.eval o).run Try.prog w = .ok (.value u) w' := by
  unfold execOp
  simp only [ho, hx, Sem.run_bind, hrun, Result.andThen_ok]
  rfl
theorem op_append {o : Oper} {a : Act} {w w' : World} {t : TypeId} {s x : Operand} {v u r : Value} (ho : o.op = .call { callee := .builtin .append, args := #[s, x], argTypes := #[t, t] }) (hs : a.eval s = v) (hx : a.eval x = u) (hrun : (Builtin.append_ #[t, t] o.type #[v, u]).run Try.prog w = .ok r w') : (execOp a.eval o).run Try.prog w = .ok (.value r) w' := by
  unfold execOp
  simp only [ho, resolve, invoke, builtin, Sem.run_bind, Sem.run_pure, Result.andThen_ok, List.map_toArray, List.map_cons, List.map_nil, hs, hx, hrun]
end Go.Proofs.Ytihbjnjpomljjaa
/- PieceOrder, walked. -/
namespace Go.Proofs.Ytihbjnjpomljjaa
set_option maxRecDepth 100000
open Go.RowKit
set_option linter.unusedVariables false
set_option linter.unusedSimpArgs false
structure Sl (W : World) (A : Option Addr) (c : Nat) (l : List Pc) : Prop where
  le : l.length ≤ c
  rd : RdP W W.heap.size A l
theorem Sl.next {W W' : World} {A : Option Addr} {c : Nat} {l : List Pc} (h : Sl W A c l) (hb : Below W.heap.size W W') : Sl W' A c l := ⟨h.le, (Rd.below (show Rd W W.heap.size A (pcs l) from h.rd) hb).more hb.size⟩
structure OkL (n : Nat) (l : List Pc) : Prop where
  len : l.length ≤ n
  ok : ∀ p ∈ l, PcOk p ∧ p.s.size ≤ 9223372036854775807
theorem OkL.merge {n m : Nat} {l k : List Pc} (h1 : OkL n l) (h2 : OkL m k) : OkL (n + m) (mergeL (l ++ k)) := ⟨by
  have h3 := merge_len (l ++ k)
  have h4 := h1.len
  have h5 := h2.len
  rw [List.length_append] at h3
  omega, fun p hp => by
  rcases List.mem_append.1 (merge_sub _ p hp) with h | h
  · exact h1.ok p h
  · exact h2.ok p h⟩
theorem run_l2 (w : World) (A : Option Addr) (n c : Nat) (B : Option Addr) (m d : Nat) {o : Oper} {ρ : Operand → Value} (x y : Operand) (ho : o.op = .buildSlice 25 2 #[(0, x), (1, y)]) (hx : ρ x = .slice A n c) (hy : ρ y = .slice B m d) :
    (execOp ρ o).run Try.prog w = .ok (.value (.slice (some ⟨w.heap.size, 0, none⟩) 2 2)) (w.alloc (.cells #[.slice A n c, .slice B m d] 22)) :=
  run_lists w [.slice A n c, .slice B m d] (by intro v hv; simp at hv; rcases hv with rfl | rfl <;> exact ⟨_, _, _, rfl⟩) #[(0, x), (1, y)] ho (by simp [hx, hy]) (by simp) (by simp)
theorem run_l3 (w : World) (A : Option Addr) (n c : Nat) (B : Option Addr) (m d : Nat) (C : Option Addr) (k e : Nat) {o : Oper} {ρ : Operand → Value} (x y z : Operand) (ho : o.op = .buildSlice 25 3 #[(0, x), (1, y), (2, z)]) (hx : ρ x = .slice A n c) (hy : ρ y = .slice B m d) (hz : ρ z = .slice C k e) :
    (execOp ρ o).run Try.prog w = .ok (.value (.slice (some ⟨w.heap.size, 0, none⟩) 3 3)) (w.alloc (.cells #[.slice A n c, .slice B m d, .slice C k e] 22)) :=
  run_lists w [.slice A n c, .slice B m d, .slice C k e] (by intro v hv; simp at hv; rcases hv with rfl | rfl | rfl <;> exact ⟨_, _, _, rfl⟩) #[(0, x), (1, y), (2, z)] ho (by simp [hx, hy, hz]) (by simp) (by simp)
theorem lists2_s {W : World} {A B : Option Addr} {ca cb : Nat} {la lb : List Pc} (h1 : Sl W A ca la) (h2 : Sl W B cb lb) :
    LsAt (W.alloc (.cells #[.slice A la.length ca, .slice B lb.length cb] 22)) (some ⟨W.heap.size, 0, none⟩) [la, lb] ∧ Below W.heap.size W (W.alloc (.cells #[.slice A la.length ca, .slice B lb.length cb] 22)) := by
  have hb : Below W.heap.size W (W.alloc (.cells #[.slice A la.length ca, .slice B lb.length cb] 22)) := (Below.refl _ _).alloc (Nat.le_refl _) _
  refine ⟨lsAt_blk (vs := [.slice A la.length ca, .slice B lb.length cb]) (Blk.new _ _ _) (fun i hi => ?_), hb⟩
  match i, hi with
  | 0, _ => exact ⟨_, _, rfl, h1.le, (h1.next hb).rd⟩
  | 1, _ => exact ⟨_, _, rfl, h2.le, (h2.next hb).rd⟩
theorem lists3_s {W : World} {A B C : Option Addr} {ca cb cc : Nat} {la lb lc : List Pc} (h1 : Sl W A ca la) (h2 : Sl W B cb lb) (h3 : Sl W C cc lc) :
    LsAt (W.alloc (.cells #[.slice A la.length ca, .slice B lb.length cb, .slice C lc.length cc] 22)) (some ⟨W.heap.size, 0, none⟩) [la, lb, lc] ∧ Below W.heap.size W (W.alloc (.cells #[.slice A la.length ca, .slice B lb.length cb, .slice C lc.length cc] 22)) := by
  have hb : Below W.heap.size W (W.alloc (.cells #[.slice A la.length ca, .slice B lb.length cb, .slice C lc.length cc] 22)) := (Below.refl _ _).alloc (Nat.le_refl _) _
  refine ⟨lsAt_blk (vs := [.slice A la.length ca, .slice B lb.length cb, .slice C lc.length cc]) (Blk.new _ _ _) (fun i hi => ?_), hb⟩
  match i, hi with
  | 0, _ => exact ⟨_, _, rfl, h1.le, (h1.next hb).rd⟩
  | 1, _ => exact ⟨_, _, rfl, h2.le, (h2.next hb).rd⟩
  | 2, _ => exact ⟨_, _, rfl, h3.le, (h3.next hb).rd⟩
section
variable {P : Program} {ops : Array Oper} {Q : Exit → Act → World → Prop} {rest : List Oper} {o : Oper} {a : Act}
theorem wpList_l2 {w : World} (x y : Operand) (ho : o.op = .buildSlice 25 2 #[(0, x), (1, y)]) (A : Option Addr) (n c : Nat) (B : Option Addr) (m d : Nat) (hx : a.eval x = .slice A n c) (hy : a.eval y = .slice B m d) (hw : Region.wanted o (yielded ops a.tmps) = true)
    (h : wpList Try.prog ops Q rest (a.put o.dst (.slice (some ⟨w.heap.size, 0, none⟩) 2 2)) (w.alloc (.cells #[.slice A n c, .slice B m d] 22))) : wpList Try.prog ops Q (o :: rest) a w :=
  wpList_valM hw _ _ (run_l2 w A n c B m d x y ho hx hy) h
theorem wpList_l3 {w : World} (x y z : Operand) (ho : o.op = .buildSlice 25 3 #[(0, x), (1, y), (2, z)]) (A : Option Addr) (n c : Nat) (B : Option Addr) (m d : Nat) (C : Option Addr) (k e : Nat) (hx : a.eval x = .slice A n c) (hy : a.eval y = .slice B m d) (hz : a.eval z = .slice C k e) (hw : Region.wanted o (yielded ops a.tmps) = true)
    (h : wpList Try.prog ops Q rest (a.put o.dst (.slice (some ⟨w.heap.size, 0, none⟩) 3 3)) (w.alloc (.cells #[.slice A n c, .slice B m d, .slice C k e] 22))) : wpList Try.prog ops Q (o :: rest) a w :=
  wpList_valM hw _ _ (run_l3 w A n c B m d C k e x y z ho hx hy hz) h
end
def MgPost (r : List Pc) (W : World) (e : Ending) (w' : World) : Prop := ∃ A c, e = .returned (.slice A r.length c) ∧ Sl w' A c r ∧ Below W.heap.size W w'
theorem merge_s {W : World} {g : Nat} {Ls : List (List Pc)} (n : Nat) (r : List Pc) (hl : LsAt W (some ⟨g, 0, none⟩) Ls) (hln : Ls.length = n) (hn : Ls.length ≤ 1000) (hok : ∀ L ∈ Ls, OkL 1000 L) (hr : mergeL Ls.flatten = r) :
    Calls Try.prog 10 #[.slice (some ⟨g, 0, none⟩) n n] W (MgPost r W) := by
  subst hln
  refine (merge_c _ _ Ls W hl (Nat.le_refl _) hn (fun L hL => ⟨(hok L hL).len, (hok L hL).ok⟩)).mono ?_
  rintro e w' ⟨v, rfl, ho, hb⟩
  rw [hr] at ho
  obtain ⟨A, c, rfl, h1, h2, h3⟩ := ho.rd
  exact ⟨A, c, rfl, ⟨h1, h3⟩, hb⟩
structure St (w : World) (A0 A1 A2 : Option Addr) (c0 c1 c2 : Nat) (a b c : List Pc) (W : World) : Prop where
  bel : Below w.heap.size w W
  s0 : Sl W A0 c0 a
  s1 : Sl W A1 c1 b
  s2 : Sl W A2 c2 c
theorem St.next {w W W' : World} {A0 A1 A2 : Option Addr} {c0 c1 c2 : Nat} {a b c : List Pc} (h : St w A0 A1 A2 c0 c1 c2 a b c W) (hb : Below W.heap.size W W') : St w A0 A1 A2 c0 c1 c2 a b c W' :=
  ⟨h.bel.trans (hb.mono h.bel.size), h.s0.next hb, h.s1.next hb, h.s2.next hb⟩
theorem less_sorted {M : List Pc} (h : SortP M) (k : Nat) (hk : k + 1 < M.length) : lessP (M.getD k pc0) (M.getD (k + 1) pc0) = true := by
  have h1 := List.pairwise_iff_getElem.1 h k (k + 1) (by omega) hk (by omega)
  rw [List.getD_eq_getElem?_getD, List.getD_eq_getElem?_getD, List.getElem?_eq_getElem hk, List.getElem?_eq_getElem (show k < M.length by omega)]
  exact decide_eq_true (okPair_cmp h1)
end Go.Proofs.Ytihbjnjpomljjaa
