/- Parts, one behind the other: Hlk Kq4 Kq5 Kq6 Kq7 Kq8 Ssu0 Ssu1 Ref1 Ref2 Cmb1 Sham8 Cmb2. -/
import Derived.Test.YtdbfikcpaionbaaDoorZ06
import Derived.OrdersHeld
import Derived.Deep.CutRange
import Derived.Deep.RegionHeld3
/- Regions that draw their order, some of whose operations make memory: what only looks is taken first. -/
namespace Go.Proofs.YtdbfikcpaionbaaDoor
set_option maxRecDepth 100000
open Go.RowKit
set_option linter.unusedVariables false
set_option linter.unusedSimpArgs false
section
variable {P : Program} {ops : Array Oper} {md : Region.Mode} {S : World → Prop} {Q : Exit → Act → World → Prop}
theorem plain_value {o : Oper} {b : Act} {w : World} {v : Value} (hp : plainOp o.op = true) (h : o.quietAt P b S w v) : (execOp b.eval o).run P w = .ok (.value v) w := by
  unfold Oper.quietAt at h
  have hne := plain_run (P := P) (ρ := b.eval) hp w
  have hnk : ∀ w', (execOp b.eval o).run P w ≠ .ok .skip w' := by
    obtain ⟨dst, op, type, pos, after, guard⟩ := o
    have key : ∀ {α : Type} (s : Sem α) (g : α → Value) (w' : World), ((do pure (.value (g (← s))) : Sem Next)).run P w ≠ .ok .skip w' := by
      intro α s g w'
      rw [Sem.run_bind]
      cases s.run P w with
      | ok u w1 => simp [Result.andThen]
      | halt x w1 => simp [Result.andThen]
    intro w'
    cases op <;> simp only [plainOp] at hp <;> (try cases hp)
    case move x => simp [execOp]
    case assign x => simp [execOp]
    case pick c x y => exact key (asBool (b.eval c)) (fun t => if t then b.eval x else b.eval y) w'
    all_goals exact key _ (fun t => t) w'
  generalize (execOp b.eval o).run P w = r at *
  cases r with
  | ok n w' =>
    cases n <;> simp only [Oper.quietUpon] at h
    case value u => rw [h.1, h.2]
    case skip => exact absurd rfl (hnk w')
    case enter f args => exact absurd rfl (hne w' f args)
  | halt x w' => simp only [Oper.quietUpon] at h
/-- what only looks, first -/
theorem anyH_quiet (i : Nat) {oi : Oper} {fuel : Nat} {listed : Array Bool} {a : Act} {w : World} (hi : ops[i]? = some oi) (hs : Region.noSelect ops = true) (hf : Region.free md ops listed i = true) (hr : (Region.ready md ops listed).contains i = true)
    (hQ : ∀ v c a w, Q (.panic c) (a.put oi.dst v) w → Q (.panic c) a w) (hw : Region.wanted oi (yielded ops a.tmps) = true) (hp : plainOp oi.op = true) (hS : S w)
    (h : ∀ K : Act → Prop, (∀ a', wpAnyH P md ops Q S fuel (listed.setIfInBounds i true) a' w → K a') → oi.quiet P a S K) : wpAnyH P md ops Q S (fuel + 1) listed a w := by
  obtain ⟨v, h1, h2⟩ := h _ (fun _ h => h)
  exact wpAnyH_take hi hs hf hr (hQ v) (.inl ⟨hw, fun w' hw' => plain_value hp (h1 w' hw')⟩) hS h2
theorem run_nilK {o : Oper} {a : Act} {w : World} (x : Operand) (ho : o.op = .nilCheck x) (p : Addr) (hx : a.eval x = .pointer (some p)) : (execOp a.eval o).run P w = .ok (.value (.pointer (some p))) w := by
  unfold execOp
  simp [ho, hx]
theorem anyH_nil (i : Nat) {oi : Oper} {fuel : Nat} {listed : Array Bool} {a : Act} {w : World} (hi : ops[i]? = some oi) (hs : Region.noSelect ops = true) (hf : Region.free md ops listed i = true) (hr : (Region.ready md ops listed).contains i = true)
    (hQ : ∀ v c a w, Q (.panic c) (a.put oi.dst v) w → Q (.panic c) a w) (hw : Region.wanted oi (yielded ops a.tmps) = true) (x : Operand) (ho : oi.op = .nilCheck x) (p : Addr) (hx : a.eval x = .pointer (some p)) (hS : S w)
    (a' : Act) (ha : a.put oi.dst (.pointer (some p)) = a') (h : wpAnyH P md ops Q S fuel (listed.setIfInBounds i true) a' w) : wpAnyH P md ops Q S (fuel + 1) listed a w := by
  subst ha
  exact wpAnyH_take hi hs hf hr (hQ _) (.inl ⟨hw, fun w' _ => run_nilK x ho p hx⟩) hS h
/-- the only one that may come up -/
theorem anyH_op (i : Nat) {o : Oper} {fuel : Nat} {listed : Array Bool} {a : Act} {w : World} (hr : Region.ready md ops listed = [i]) (hi : ops[i]? = some o) (hw : Region.wanted o (yielded ops a.tmps) = true)
    (h : o.wp P a w (fun a' w' => S w' ∧ wpAnyH P md ops Q S fuel (listed.setIfInBounds i true) a' w') Q) : wpAnyH P md ops Q S (fuel + 1) listed a w := by
  refine wpAnyH_all hr (by simp) fun j hj => ?_
  obtain rfl := List.mem_singleton.1 hj
  unfold wpOp
  simp only [hi, hw, if_true]
  exact .inl h
/-- one of two -/
theorem anyH_two (i j : Nat) {o p : Oper} {fuel : Nat} {listed : Array Bool} {a : Act} {w : World} (hr : Region.ready md ops listed = [i, j]) (hi : ops[i]? = some o) (hj : ops[j]? = some p) (hw : Region.wanted o (yielded ops a.tmps) = true) (hv : Region.wanted p (yielded ops a.tmps) = true)
    (h : o.wp P a w (fun a' w' => S w' ∧ wpAnyH P md ops Q S fuel (listed.setIfInBounds i true) a' w') Q) (h' : p.wp P a w (fun a' w' => S w' ∧ wpAnyH P md ops Q S fuel (listed.setIfInBounds j true) a' w') Q) : wpAnyH P md ops Q S (fuel + 1) listed a w := by
  refine wpAnyH_all hr (by simp) fun k hk => ?_
  rcases List.mem_cons.1 hk with rfl | hk
  · unfold wpOp
    simp only [hi, hw, if_true]
    exact .inl h
  · obtain rfl := List.mem_singleton.1 hk
    unfold wpOp
    simp only [hj, hv, if_true]
    exact .inl h'
/-- an operation whose run is told -/
theorem op_value {o : Oper} {a : Act} {w w' : World} {v : Value} {K : Act → World → Prop} (hrun : (execOp a.eval o).run P w = .ok (.value v) w') (a' : Act) (ha : a.put o.dst v = a') (h : K a' w') : o.wp P a w K Q := by
  subst ha
  unfold Oper.wp
  rw [hrun]
  exact h
/-- a call -/
theorem op_call {o : Oper} {a : Act} {w : World} {f : FuncId} {args : Array Value} {K : Act → World → Prop} (hrun : (execOp a.eval o).run P w = .ok (.enter f args) w) (a' : Value → Act) (ha : ∀ v, a.put o.dst v = a' v) (hc : Calls P f args w fun e w' => ∃ v, e = .returned v ∧ K (a' v) w') : o.wp P a w K Q := by
  unfold Oper.wp
  rw [hrun]
  refine Calls.mono hc ?_
  rintro e w' ⟨v, rfl, h⟩
  show K (a.put o.dst v) w'
  rw [ha]
  exact h
end
theorem op_convert {o : Oper} {a : Act} {w w' : World} {t1 t2 : TypeId} {x : Operand} {v u : Value} (ho : o.op = .convert t1 t2 x) (hx : a.eval x = v) (hrun : (convert t1 t2 v).run Tryd.prog w = .ok u w') : (execOp a.eval o).run Tryd.prog w = .ok (.value u) w' := by
  unfold execOp
  simp only [ho, hx, Sem.run_bind, hrun, Result.andThen_ok]
  rfl
theorem op_append {o : Oper} {a : Act} {w w' : World} {t : TypeId} {s x : Operand} {v u r : Value} (ho : o.op = .call { callee := .builtin .append, args := #[s, x], argTypes := #[t, t] }) (hs : a.eval s = v) (hx : a.eval x = u) (hrun : (Builtin.append_ #[t, t] o.type #[v, u]).run Tryd.prog w = .ok r w') : (execOp a.eval o).run Tryd.prog w = .ok (.value r) w' := by
  unfold execOp
  simp only [ho, resolve, invoke, builtin, Sem.run_bind, Sem.run_pure, Result.andThen_ok, List.map_toArray, List.map_cons, List.map_nil, hs, hx, hrun]
section
variable {P : Program} {ops : Array Oper} {Z : World} {ls : List Tmp} {V : Tmp → Value → World → Prop} {Q : Act → Prop} {b : Act} {o : Oper} {rest : List Oper}
theorem wpLoud_nilK (x : Operand) (ho : o.op = .nilCheck x) (p : Addr) (hx : b.eval x = .pointer (some p)) (hw : Region.wanted o (yielded ops b.tmps) = true) (hq : quietB ops ls o = true)
    (b' : Act) (hb : b.put o.dst (.pointer (some p)) = b') (h : wpLoud P ops Z ls V Q rest b') : wpLoud P ops Z ls V Q (o :: rest) b :=
  wpLoud_val hw hq (fun cs t he => by rw [ho] at he; cases he) _ (fun y => run_nilK x ho p hx) b' hb h
end
end Go.Proofs.YtdbfikcpaionbaaDoor
/- Contract: a keeper puts its shares together. -/
namespace Go.Proofs.YtdbfikcpaionbaaDoor
open Go.RowKit
set_option linter.unusedVariables false
set_option linter.unusedSimpArgs false
theorem RoundsAt.only {S : Nat → Prop} {w w' : World} (h : RoundsAt w) (ho : Only S w w') (h0 : ¬ S 0) : RoundsAt w' := ⟨fun i hi => ho.cell (h.1 i hi) h0, Nat.lt_of_lt_of_le h.2 ho.size⟩
theorem op_alloc {P : Program} {o : Oper} {a : Act} {w : World} {T : TypeId} {z : Array Value} (ho : o.op = .alloc T) (hz : ∀ w, (zeroValue T).run P w = .ok (.agg z) w) (hne : ¬ z = #[]) :
    (execOp a.eval o).run P w = .ok (.value (.pointer (some ⟨w.heap.size, 0, none⟩))) (w.alloc (.cells z T)) := by
  unfold execOp
  simp [ho, Instr.alloc, hz, newVar, newRow, Value.cells, hne]
set_option maxRecDepth 100000 in
set_option maxHeartbeats 2000000 in
theorem try_no (w : World) (g : Nat) (t : Int) (n : Nat) (A : Option Addr) (c : Nat) (hct : w.cell? ⟨g, 0, none⟩ = some (.int .i64 t)) (hcv : w.cell? ⟨g, 66, none⟩ = some (.slice A n c)) (h : t < 1 ∨ (n : Int) < t) :
    Calls Tryd.prog 24 #[.pointer (some ⟨g, 0, none⟩)] w fun e w' => e = .returned (.tuple #[]) ∧ ∃ q, w' = w.drewN q := by
  by_cases h1 : t < 1
  · have t1 : decide (t < 1) = true := decide_eq_true h1
    clear h h1
    go_enter Tryd.func24, Tryd.ntmps24
    go_upto_region 0 with fail
    refine wp_region_class (fun z => w.drewN z) (by kernel_rfl) (by kernel_rfl) ⟨1, rfl⟩ ?_
    repeat (go_big_quiet_step (fail))
    refine wpQuiet_nil ?_
    rintro _ ⟨q, rfl⟩
    go_wp2_with fail
    refine bodyPost_ret (results_none rfl _ _ _) rfl ?_
    exact ⟨rfl, q, rfl⟩
  · have t1 : decide (t < 1) = false := decide_eq_false h1
    have t2 : decide ((n : Int) < t) = true := decide_eq_true (by omega)
    clear h h1
    go_enter Tryd.func24, Tryd.ntmps24
    go_upto_region 0 with fail
    refine wp_region_class (fun z => w.drewN z) (by kernel_rfl) (by kernel_rfl) ⟨1, rfl⟩ ?_
    repeat (go_big_quiet_step (fail))
    refine wpQuiet_nil ?_
    rintro _ ⟨q, rfl⟩
    go_wp2_with fail
    refine bodyPost_ret (results_none rfl _ _ _) rfl ?_
    exact ⟨rfl, q, rfl⟩
set_option maxRecDepth 100000 in
set_option maxHeartbeats 4000000 in
theorem try_yes (w : World) (g : Nat) (st : Kst) (v : Value) (T : Nat) (hT : st.t = (T : Int)) (h1 : 1 ≤ T) (h2 : T ≤ st.n) (hn : st.n ≤ 900) (hok : KOK st) (h : KAt w g 48 101 st v) (hR : RoundsAt w) (hg0 : 0 < g) :
    Calls Tryd.prog 24 #[.pointer (some ⟨g, 0, none⟩)] w fun e w' => e = .returned (.tuple #[]) ∧ KGo w g 48 101 (kTry st) v w' := by
  have hk : kTry st = if prfL (kCom st.L T) = st.p then { st with m := kCom st.L T, o := true } else kAlone st := by
    unfold kTry
    rw [if_neg (by omega), show st.t.toNat = T by omega]
    rfl
  obtain ⟨st2, hst2⟩ : ∃ st2, st2 = kTry st := ⟨_, rfl⟩
  rw [← hst2]
  rw [hk] at hst2
  obtain ⟨A, c, rfl, hc1, hc2, hrd⟩ := own_rd h.own
  have hct := h.ct
  rw [hT] at hct
  have hcv := h.cv
  have t1 : decide ((T : Int) < 1) = false := decide_eq_false (by omega)
  have t2 : decide ((st.n : Int) < (T : Int)) = false := decide_eq_false (by omega)
  have hcm : (T : Int) ≤ (c : Int) := by omega
  have H := Lib.hid h
  have HOK := Lib.hid hok
  have HR := Lib.hid hR
  have hrt := hok.r.take h2
  have hcE : comE (st.L.take (T * 33)) T = 0 := by unfold comE; rw [if_neg (by omega), hrt.plc]
  have hcR : comR (st.L.take (T * 33)) T = kCom st.L T := by unfold comR kCom; rw [if_neg (by omega), if_pos hrt.plc]
  have HCB := Lib.hid (fun W (hb : Below w.heap.size w W) => combine_c T c A (st.L.take (T * 33)) W (by omega) (by omega) (by simp only [maxLen] at hc2; omega) hrt.lt ⟨hrt.len, fun hne => by
    have hne2 : byt st.L ≠ [] := fun h0 => hne (by simp only [byt, List.map_eq_nil_iff] at h0; rw [h0]; simp [byt])
    obtain ⟨ad, e, hb1, hc⟩ := hrd hne2
    refine ⟨ad, e, Nat.lt_of_lt_of_le hb1 hb.size, fun j u hu => (hb.cell (by rw [add_block]; exact hb1)).trans (hc j u ?_)⟩
    simp only [byt, List.map_take] at hu ⊢
    have hj : j < T * 33 := by
      rcases Nat.lt_or_ge j (T * 33) with h3 | h3
      · exact h3
      · rw [List.getElem?_eq_none (by rw [List.length_take]; omega)] at hu; cases hu
    rwa [List.getElem?_take_of_lt hj] at hu⟩)
  rw [hcE, hcR] at HCB
  have hCl := kCom_len st.L T
  have hCb := kCom_lt st.L T
  obtain ⟨C, hC⟩ : ∃ C, C = kCom st.L T := ⟨_, rfl⟩
  rw [← hC] at HCB hCl hCb hst2
  have HST := Lib.hid hst2
  clear hst2
  have HCL := Lib.hid hCl
  have HCbb := Lib.hid hCb
  have zf := zero_key
  have zn := z32_size
  have ze := z32_ne
  clear hk h hok hR hrt hcE hcR hC hCl hCb hrd
  go_enter Tryd.func24, Tryd.ntmps24
  go_upto_region 0 with fail
  refine wp_region_class (fun z => w.drewN z) (by kernel_rfl) (by kernel_rfl) ⟨1, rfl⟩ ?_
  repeat (go_big_quiet_step (fail))
  refine wpQuiet_nil ?_
  rintro _ ⟨q, rfl⟩
  have hb1 : Below w.heap.size w (w.drewN q) := belowDrewN q (Below.refl _ _)
  have hct1 := (H.out.next hb1).ct
  rw [hT] at hct1
  have hcv1 := (H.out.next hb1).cv
  have HB1 := Lib.hid hb1
  clear hct hcv
  generalize w.drewN q = W1 at *
  have k0 := cell_ext hct1
  have k1 := cell_ext hcv1
  clear hct1 hcv1 hb1
  go_upto_region 1 with fail
  go_cut [2, 3] from 21 to 34 (fun p e wx => ∃ b, p = .pointer (some ⟨b, 0, none⟩) ∧ e = .int .i64 0 ∧ Blk wx b 23 (vb C) ∧ Below W1.heap.size W1 wx ∧ W1.heap.size ≤ b)
  case first =>
    have hdr : ∃ x : Ext W1, W1.drew = x.wd := Ext.of (Below.refl _ _).drew
    refine wp_region_held (S := fun w' => ∃ x : Ext W1, w' = x.wd) (by kernel_rfl) ?_
    show wpAnyH _ _ _ _ _ 16 _ _ W1.drew
    refine anyH_quiet 0 rfl (by kernel_rfl) (by kernel_rfl) (by kernel_rfl) (fun _ _ _ _ h => h) rfl rfl hdr ?_
    intro K hK
    conv => arg 2; whnf
    go_big_quiet_op
    go_big_quiet_on
    refine anyH_nil 1 rfl (by kernel_rfl) (by kernel_rfl) (by kernel_rfl) (fun _ _ _ _ h => h) rfl (.tmp 22) rfl ⟨g, 0, none⟩ rfl hdr _ (by conv => lhs; arg 2; whnf) ?_
    simp only [Act.put, List.setIfInBounds_toArray, List.set_cons_succ, List.set_cons_zero]
    refine anyH_quiet 2 rfl (by kernel_rfl) (by kernel_rfl) (by kernel_rfl) (fun _ _ _ _ h => h) rfl rfl hdr ?_
    intro K hK
    conv => arg 2; whnf
    go_big_quiet_op
    go_big_quiet_on
    refine anyH_quiet 3 rfl (by kernel_rfl) (by kernel_rfl) (by kernel_rfl) (fun _ _ _ _ h => h) rfl rfl hdr ?_
    intro K hK
    conv => arg 2; whnf
    go_big_quiet_op
    go_big_quiet_on
    refine anyH_quiet 4 rfl (by kernel_rfl) (by kernel_rfl) (by kernel_rfl) (fun _ _ _ _ h => h) rfl rfl hdr ?_
    intro K hK
    conv => arg 2; whnf
    go_big_quiet_op
    go_big_quiet_on
    refine anyH_nil 5 rfl (by kernel_rfl) (by kernel_rfl) (by kernel_rfl) (fun _ _ _ _ h => h) rfl (.tmp 26) rfl ⟨g, 0, none⟩ rfl hdr _ (by conv => lhs; arg 2; whnf) ?_
    simp only [Act.put, List.setIfInBounds_toArray, List.set_cons_succ, List.set_cons_zero]
    refine anyH_quiet 6 rfl (by kernel_rfl) (by kernel_rfl) (by kernel_rfl) (fun _ _ _ _ h => h) rfl rfl hdr ?_
    intro K hK
    conv => arg 2; whnf
    go_big_quiet_op
    go_big_quiet_on
    refine anyH_quiet 7 rfl (by kernel_rfl) (by kernel_rfl) (by kernel_rfl) (fun _ _ _ _ h => h) rfl rfl hdr ?_
    intro K hK
    conv => arg 2; whnf
    go_big_quiet_op
    go_big_quiet_on
    refine anyH_quiet 8 rfl (by kernel_rfl) (by kernel_rfl) (by kernel_rfl) (fun _ _ _ _ h => h) rfl rfl hdr ?_
    intro K hK
    conv => arg 2; whnf
    go_big_quiet_op
    go_big_quiet_on
    refine anyH_two 9 13 (by kernel_rfl) rfl rfl rfl rfl ?_ ?_
    · refine op_call (by kernel_rfl) _ (fun v => by conv => lhs; arg 2; whnf) ((HCB.out W1.drew (HB1.out.drew)).mono ?_)
      rintro e W2 ⟨rfl, hb2⟩
      have hw2 : Below W1.heap.size W1 W2 := (Below.refl W1.heap.size W1).drew.trans hb2
      refine ⟨_, rfl, Ext.of hw2, ?_⟩
      simp only [Act.put, List.setIfInBounds_toArray, List.set_cons_succ, List.set_cons_zero]
      refine anyH_quiet 10 rfl (by kernel_rfl) (by kernel_rfl) (by kernel_rfl) (fun _ _ _ _ h => h) rfl rfl (Ext.of hw2) ?_
      intro K hK
      conv => arg 2; whnf
      go_big_quiet_op
      go_big_quiet_on
      refine anyH_quiet 11 rfl (by kernel_rfl) (by kernel_rfl) (by kernel_rfl) (fun _ _ _ _ h => h) rfl rfl (Ext.of hw2) ?_
      intro K hK
      conv => arg 2; whnf
      go_big_quiet_op
      go_big_quiet_on
      refine anyH_quiet 12 rfl (by kernel_rfl) (by kernel_rfl) (by kernel_rfl) (fun _ _ _ _ h => h) rfl rfl (Ext.of hw2) ?_
      intro K hK
      conv => arg 2; whnf
      go_big_quiet_op
      go_big_quiet_on
      refine anyH_op 13 (by kernel_rfl) rfl rfl ?_
      have hw3 : Below W1.heap.size W1 (W2.alloc (.cells z32 23)) := hw2.alloc hw2.size _
      refine op_value (op_alloc rfl zf ze) _ (by conv => lhs; arg 2; whnf) ⟨Ext.of hw3, ?_⟩
      simp only [Act.put, List.setIfInBounds_toArray, List.set_cons_succ, List.set_cons_zero]
      refine anyH_op 14 (by kernel_rfl) rfl rfl ?_
      have hw4 : Below W1.heap.size W1 ((W2.alloc (.cells z32 23)).setRow W2.heap.size (vb C)) := Below.setRow hw3 hw2.size _
      refine wp_store_row 23 (.tmp 2) (.tmp 32) rfl W2.heap.size (vb C) rfl rfl 23 z32 (Blk.new W2 _ _) (key_szL HCL.out) (by rw [vb_size, HCL.out]; rfl) (vb_one _) ⟨Ext.of hw4, ?_⟩
      conv => arg 8; whnf
      refine anyH_quiet 15 rfl (by kernel_rfl) (by kernel_rfl) (by kernel_rfl) (fun _ _ _ _ h => h) rfl rfl (Ext.of hw4) ?_
      intro K hK
      conv => arg 2; whnf
      go_big_quiet_op
      go_big_quiet_on
      refine wpAnyH_done (by kernel_rfl) ?_ _
      go_wp2_with fail
      go_meet
      exact ⟨_, rfl, rfl, setRow_heap _ _ z32 _ 23 (0, 0) (Blk.new W2 _ _), hw4, hw2.size⟩
    · have hw3 : Below W1.heap.size W1 (W1.drew.alloc (.cells z32 23)) := (Below.refl W1.heap.size W1).drew.alloc (Nat.le_refl _) _
      refine op_value (op_alloc rfl zf ze) _ (by conv => lhs; arg 2; whnf) ⟨Ext.of hw3, ?_⟩
      simp only [Act.put, List.setIfInBounds_toArray, List.set_cons_succ, List.set_cons_zero]
      refine anyH_op 9 (by kernel_rfl) rfl rfl ?_
      refine op_call (by kernel_rfl) _ (fun v => by conv => lhs; arg 2; whnf) ((HCB.out _ (HB1.out.trans (hw3.mono HB1.out.size))).mono ?_)
      rintro e W2 ⟨rfl, hb2⟩
      have hw2 : Below W1.heap.size W1 W2 := hw3.trans (hb2.mono hw3.size)
      have hbz : Blk W2 W1.heap.size 23 z32 := (Blk.new W1.drew 23 z32).below hb2 (by simp)
      refine ⟨_, rfl, Ext.of hw2, ?_⟩
      simp only [Act.put, List.setIfInBounds_toArray, List.set_cons_succ, List.set_cons_zero]
      refine anyH_quiet 10 rfl (by kernel_rfl) (by kernel_rfl) (by kernel_rfl) (fun _ _ _ _ h => h) rfl rfl (Ext.of hw2) ?_
      intro K hK
      conv => arg 2; whnf
      go_big_quiet_op
      go_big_quiet_on
      refine anyH_quiet 11 rfl (by kernel_rfl) (by kernel_rfl) (by kernel_rfl) (fun _ _ _ _ h => h) rfl rfl (Ext.of hw2) ?_
      intro K hK
      conv => arg 2; whnf
      go_big_quiet_op
      go_big_quiet_on
      refine anyH_quiet 12 rfl (by kernel_rfl) (by kernel_rfl) (by kernel_rfl) (fun _ _ _ _ h => h) rfl rfl (Ext.of hw2) ?_
      intro K hK
      conv => arg 2; whnf
      go_big_quiet_op
      go_big_quiet_on
      refine anyH_op 14 (by kernel_rfl) rfl rfl ?_
      have hw4 : Below W1.heap.size W1 (W2.setRow W1.heap.size (vb C)) := Below.setRow hw2 (Nat.le_refl _) _
      refine wp_store_row 23 (.tmp 2) (.tmp 32) rfl W1.heap.size (vb C) rfl rfl 23 z32 hbz (key_szL HCL.out) (by rw [vb_size, HCL.out]; rfl) (vb_one _) ⟨Ext.of hw4, ?_⟩
      conv => arg 8; whnf
      refine anyH_quiet 15 rfl (by kernel_rfl) (by kernel_rfl) (by kernel_rfl) (fun _ _ _ _ h => h) rfl rfl (Ext.of hw4) ?_
      intro K hK
      conv => arg 2; whnf
      go_big_quiet_op
      go_big_quiet_on
      refine wpAnyH_done (by kernel_rfl) ?_ _
      go_wp2_with fail
      go_meet
      exact ⟨_, rfl, rfl, setRow_heap _ _ z32 _ 23 (0, 0) hbz, hw4, Nat.le_refl _⟩
  case rest =>
    obtain ⟨b, rfl, rfl, hblk, hbel, hle⟩ := hcut
    have HBK := Lib.hid hblk
    have HWC := Lib.hid (HB1.out.trans (hbel.mono HB1.out.size))
    have HKA := Lib.hid (H.out.next HWC.out)
    have HRC := Lib.hid (HR.out.next HWC.out)
    have hpb : ∀ c ∈ prfL C, c < 256 := prfL_lt C
    have hpl := prfL_len C
    have HPR := Lib.hid (fun W hR => kproof_c C W HCL.out HCbb.out hR)
    have l3 := fun W => run_equalIn_barr (P := Tryd.prog) (T := 28) Tryd.underlying28 Tryd.underlying5 (by kernel_rfl) (by kernel_rfl) (prfL C) st.p hpl HOK.out.pl hpb HOK.out.pb W
    have HKSL := Lib.hid (show (Tryd.prog.info? 23).map (·.size) = some (vb C).toList.length by rw [Array.length_toList]; exact key_szL HCL.out)
    have HPSL := Lib.hid (show (Tryd.prog.info? 28).map (·.size) = some (vb st.p).toList.length by rw [Array.length_toList]; exact sum_sz HOK.out.pl)
    have HGB := Lib.hid (show g ≠ b by have h1 := H.out.lt; have h2 := HB1.out.size; omega)
    clear hblk hbel hle H HB1 HCB k0 k1 hpb hpl zf zn ze
    have HPE := Lib.hid (Classical.em (prfL C = st.p))
    generalize prfL C = PC at *
    rcases HPE.out with he | he
    · have hst3 := HST.out
      rw [if_pos he] at hst3
      have HST3 := Lib.hid hst3
      have hbq : (PC == st.p) = true := by rw [he]; exact beq_self_eq_true _
      simp only [hbq] at l3
      clear he hbq hst3
      go_upto_region 2 with fail
      refine wp_region_loud wc [] (fun k u W => True) (by kernel_rfl) (by kernel_rfl) (by kernel_rfl) (by kernel_rfl) (fun k u w1 w2 h hb => trivial) (Below.refl _ _).drew ?_
      repeat (first
        | (refine wpLoud_nilK (.tmp 39) rfl ⟨g, 0, none⟩ rfl rfl rfl _ (by simp only [Act.put, List.setIfInBounds_toArray, List.set_cons_succ, List.set_cons_zero]; rfl) ?_)
        | (refine wpLoud_loadB rfl rfl 23 (.tmp 2) rfl b 0 rfl (vb C) _ (fun z => rangeAt_blk (HBK.out.below z.bel HBK.out.lt)) Tryd.underlying23 rfl HKSL.out _ (by simp only [Act.put, List.setIfInBounds_toArray, List.set_cons_succ, List.set_cons_zero]; rfl) ?_)
        | (refine wpLoud_loadB rfl rfl 28 (.tmp 41) rfl g 1 rfl (vb st.p) _ (fun z => (HKA.out.next z.bel).rp) Tryd.underlying28 rfl HPSL.out _ (by simp only [Act.put, List.setIfInBounds_toArray, List.set_cons_succ, List.set_cons_zero]; rfl) ?_)
        | (refine wpLoud_call 38 rfl [] (.agg (vb PC)) 13 (fun g => #[.agg (vb C)]) rfl (fun _ _ h => by cases h) rfl (fun g w => by kernel_rfl) (fun g y hg => by
            refine (HPR.out y.wd (HRC.out.next y.bel)).mono ?_
            rintro e w' ⟨rfl, hb⟩
            exact ⟨_, rfl, hb, rfl⟩) _ (by simp only [Act.put, List.setIfInBounds_toArray, List.set_cons_succ, List.set_cons_zero]; rfl) ?_)
        | (refine wpLoud_plain rfl rfl rfl ?_; intro K hK; go_big_quiet_op; go_big_quiet_on))
      refine wpLoud_end [] (by rfl) ?_
      intro gg z hg
      have HKA2 := Lib.hid (HKA.out.next z.bel)
      have HBK2 := Lib.hid (HBK.out.below z.bel HBK.out.lt)
      have HWC2 := Lib.hid (HWC.out.trans (z.bel.mono HWC.out.size))
      generalize z.wd = W5 at *
      simp only [fill, Act.put, List.setIfInBounds_toArray, List.set_cons_succ, List.set_cons_zero]
      clear hg

      have hts : W5.there g 67 (vb C).size := by rw [vb_size, HCL.out]; exact HKA2.out.there 67 32 (by decide)
      have hM := HKA2.out.setM (by decide) HOK.out.pl HOK.out.ml C HCL.out
      have hMO := hM.setO (by decide) HOK.out.pl HOK.out.ml HCL.out true
      have hco := hM.co
      have hfo := (hM.there 99 1 (by decide) 0 (by decide)).2
      have HTS := Lib.hid hts
      have HMO := Lib.hid hMO
      have HON := Lib.hid ((only_setCellsG g (byt C) 67 W5 W5 (Only.refl _ W5)).setCell (p := ⟨g, 99, none⟩) (fun _ => rfl) (.bool true))
      have HKZ := Lib.hid (key_szL HCL.out)
      clear hts hM hMO
      go_wp2_with (first
        | (refine wpList_load_row rfl 23 (.tmp 2) rfl b rfl 23 (vb C) (0, 0) _ HBK2.out Tryd.underlying23 rfl HKZ.out ?_)
        | (refine wpList_store_mid rfl 23 (.tmp 51) (.tmp 49) rfl g 67 (vb C) rfl rfl HTS.out HKZ.out (vb_one _) ?_; rw [show (vb C).toList = byt C from rfl]))
      refine bodyPost_end (results_none rfl _ _ _) rfl ?_
      refine ⟨rfl, _, (by rw [HST3.out]; exact HMO.out), ?_, .inl rfl⟩
      exact (Only.of_below HWC2.out).then_ HON.out (fun i hi h => .inl h)
    · have hst3 := HST.out
      rw [if_neg he] at hst3
      have HST3 := Lib.hid hst3
      have hbq : (PC == st.p) = false := beq_eq_false_iff_ne.2 he
      simp only [hbq] at l3
      clear he hbq hst3
      go_upto_region 2 with fail
      refine wp_region_loud wc [] (fun k u W => True) (by kernel_rfl) (by kernel_rfl) (by kernel_rfl) (by kernel_rfl) (fun k u w1 w2 h hb => trivial) (Below.refl _ _).drew ?_
      repeat (first
        | (refine wpLoud_nilK (.tmp 39) rfl ⟨g, 0, none⟩ rfl rfl rfl _ (by simp only [Act.put, List.setIfInBounds_toArray, List.set_cons_succ, List.set_cons_zero]; rfl) ?_)
        | (refine wpLoud_loadB rfl rfl 23 (.tmp 2) rfl b 0 rfl (vb C) _ (fun z => rangeAt_blk (HBK.out.below z.bel HBK.out.lt)) Tryd.underlying23 rfl HKSL.out _ (by simp only [Act.put, List.setIfInBounds_toArray, List.set_cons_succ, List.set_cons_zero]; rfl) ?_)
        | (refine wpLoud_loadB rfl rfl 28 (.tmp 41) rfl g 1 rfl (vb st.p) _ (fun z => (HKA.out.next z.bel).rp) Tryd.underlying28 rfl HPSL.out _ (by simp only [Act.put, List.setIfInBounds_toArray, List.set_cons_succ, List.set_cons_zero]; rfl) ?_)
        | (refine wpLoud_call 38 rfl [] (.agg (vb PC)) 13 (fun g => #[.agg (vb C)]) rfl (fun _ _ h => by cases h) rfl (fun g w => by kernel_rfl) (fun g y hg => by
            refine (HPR.out y.wd (HRC.out.next y.bel)).mono ?_
            rintro e w' ⟨rfl, hb⟩
            exact ⟨_, rfl, hb, rfl⟩) _ (by simp only [Act.put, List.setIfInBounds_toArray, List.set_cons_succ, List.set_cons_zero]; rfl) ?_)
        | (refine wpLoud_plain rfl rfl rfl ?_; intro K hK; go_big_quiet_op; go_big_quiet_on))
      refine wpLoud_end [] (by rfl) ?_
      intro gg z hg
      have HKA2 := Lib.hid (HKA.out.next z.bel)
      have HBK2 := Lib.hid (HBK.out.below z.bel HBK.out.lt)
      have HWC2 := Lib.hid (HWC.out.trans (z.bel.mono HWC.out.size))
      generalize z.wd = W5 at *
      simp only [fill, Act.put, List.setIfInBounds_toArray, List.set_cons_succ, List.set_cons_zero]
      clear hg

      have HAL := Lib.hid (alone_c W5 g st (.slice A st.n c) HOK.out HKA2.out)
      go_wp2_with (go_at_call 17; (refine HAL.out.mono ?_); rintro e w6 ⟨rfl, hk6⟩; have HK6 := Lib.hid hk6; clear hk6)
      refine bodyPost_ret (results_none rfl _ _ _) rfl ?_
      obtain ⟨v', h1, h2, h3⟩ := HK6.out
      refine ⟨rfl, v', (by rw [HST3.out]; exact h1), (Only.of_below HWC2.out).then_ h2 (fun i hi h => h), ?_⟩
      rcases h3 with h3 | h3
      · exact .inl h3
      · exact .inr fun b hb => Nat.le_trans HWC2.out.size (h3 b hb)
theorem try_c (w : World) (g : Nat) (st : Kst) (v : Value) (hn : st.n ≤ 900) (hok : KOK st) (h : KAt w g 48 101 st v) (hR : RoundsAt w) (hg0 : 0 < g) :
    Calls Tryd.prog 24 #[.pointer (some ⟨g, 0, none⟩)] w fun e w' => e = .returned (.tuple #[]) ∧ KGo w g 48 101 (kTry st) v w' := by
  by_cases hc : st.t < 1 ∨ (st.n : Int) < st.t
  · obtain ⟨A, c, rfl, _, _, _⟩ := own_rd h.own
    refine (try_no w g st.t st.n A c h.ct h.cv hc).mono ?_
    rintro e w' ⟨rfl, q, rfl⟩
    have hk : kTry st = st := by unfold kTry; rw [if_pos hc]
    rw [hk]
    exact ⟨rfl, _, h.next (belowDrewN q (Below.refl _ _)), (Only.refl _ w).drewN q, .inl rfl⟩
  · refine try_yes w g st v st.t.toNat (by omega) (by omega) (by omega) hn hok h hR hg0
end Go.Proofs.YtdbfikcpaionbaaDoor
/- Contract: a keeper is offered a share. -/
namespace Go.Proofs.YtdbfikcpaionbaaDoor
open Go.RowKit
set_option linter.unusedVariables false
set_option linter.unusedSimpArgs false
set_option maxRecDepth 100000 in
theorem bsearch_nil (x : Nat) (w : World) :
    Calls Tryd.prog 20 #[.slice none 0 0, .int .u8 x, .func (.func 21) #[] #[]] w fun e w' => e = .returned (.tuple #[.int .i64 ((0 : Nat) : Int), .bool false]) ∧ Below w.heap.size w w' := by
  go_enter Tryd.func20, Tryd.ntmps20
  go_wp2_with fail
  go_loopw [9, 10] (fun a b wr => a = .int .i64 0 ∧ b = .int .i64 0 ∧ Below w.heap.size w wr) (fun a b _ => (intOf b).toNat - (intOf a).toNat)
  case atStart => exact ⟨rfl, rfl, Below.refl _ _⟩
  case round =>
    rename World => wr
    obtain ⟨rfl, rfl, hbel⟩ := hrel
    have HB := Lib.hid hbel
    clear hbel
    go_wp2_with fail
    go_ret2
    exact ⟨rfl, HB.out⟩
theorem own_atA {w : World} {base g cap n : Nat} {l : List Nat} (h : OwnS w base (.slice (some ⟨g, 0, none⟩) n cap) n l) : AtA w ⟨g, 0, none⟩ (byt l) := fun j u hu => by
  obtain ⟨A, c, e, _, _, hr⟩ := own_rd h
  injection e with e1 _ _
  obtain ⟨ad, e2, _, hc⟩ := hr (fun h0 => by rw [h0] at hu; simp at hu)
  rw [← e1] at e2
  injection e2 with e2
  rw [e2]; exact hc j u hu
theorem bsearch_own (base n x k : Nat) (v : Value) (L : List Nat) (w : World) (hn : n ≤ 1000) (hO : OwnS w base v n L) (hk : SpA L n x k) :
    Calls Tryd.prog 20 #[v, .int .u8 x, .func (.func 21) #[] #[]] w fun e w' => e = .returned (.tuple #[.int .i64 k, .bool (decide (k < n) && decide (shX L k = x))]) ∧ Below w.heap.size w w' := by
  have hL : L.length = n * 33 := by have := hO.1; rwa [byt_len] at this
  rcases hO.2 with ⟨rfl, rfl⟩ | ⟨g, cap, cur, rfl, hb, hg, hnc, hm, hcs, hct⟩
  · have h0 : k = 0 := by have := hk.1; omega
    subst h0
    exact bsearch_nil x w
  · rcases Nat.eq_zero_or_pos n with h0 | h0
    · subst h0
      have hk0 : k = 0 := by have := hk.1; omega
      subst hk0
      have hL0 : L = [] := List.eq_nil_of_length_eq_zero (by omega)
      subst hL0
      exact bsearch_c 0 cap x 0 ⟨g, 0, none⟩ [] w (by omega) (by omega) (by simp only [maxLen] at hm; omega) rfl (Array.getElem?_eq_some_iff.1 hg).1 (fun j u hu => by simp [byt] at hu) hk
    · exact bsearch_c n cap x k ⟨g, 0, none⟩ L w hn hnc (by simp only [maxLen] at hm; omega) hL (Array.getElem?_eq_some_iff.1 hg).1 (own_atA (cap := cap) hO) hk
section
variable {P : Program}
theorem op_load1 {o : Oper} {a : Act} {w : World} {T : TypeId} {x : Operand} {p : Addr} {v : Value} (ho : o.op = .load T x) (hx : a.eval x = .pointer (some p)) (hrun : (loadVar T p).run P w = .ok v w) : (execOp a.eval o).run P w = .ok (.value v) w := by
  unfold execOp
  simp only [ho, hx, Instr.loadAt, Instr.sureAddr, Sem.run_bind, Sem.run_pure, Result.andThen_ok, hrun]
end
theorem run_load_slice (w : World) (p : Addr) (v : Value) (hc : w.cell? p = some v) : (loadVar 38 p).run Tryd.prog w = .ok v w := by
  have h1 := Tryd.isAgg38 w
  simp [loadVar, Sem.run_bind, h1, load, hc, Sem.run]
end Go.Proofs.YtdbfikcpaionbaaDoor
/- Contract: a keeper is offered a share, walked. -/
namespace Go.Proofs.YtdbfikcpaionbaaDoor
open Go.RowKit
set_option linter.unusedVariables false
set_option linter.unusedSimpArgs false
theorem KAt.swap {w w' : World} {g : Nat} {T : TypeId} {sz : Nat} {st : Kst} {v : Value} {S : Nat → Prop} (h : KAt w g T sz st v) (ho : Only S w w') (hg : ¬ S g) (hsz : 100 ≤ sz) (hp : st.p.length = 32) (hm : st.mine.length = 33) (v' : Value) (n' : Nat) (L' : List Nat) (hO : OwnS w' (g + 1) v' n' L') :
    KAt (w'.setCell ⟨g, 66, none⟩ v') g T sz { st with n := n', L := L' } v' := by
  obtain ⟨cs, hb, hs⟩ := h.bk
  have hb1 : w'.heap[g]? = some (.cells cs T (0, 0)) := (ho.block g h.lt hg).trans hb
  have hb' := heapSet (i := 66) v' hb1
  have hoth : ∀ j x, j ≠ 66 → w.cell? ⟨g, j, none⟩ = some x → (w'.setCell ⟨g, 66, none⟩ v').cell? ⟨g, j, none⟩ = some x := fun j x hj hx => by
    simp only [World.cell?, hb, hb'] at hx ⊢
    rw [Array.getElem?_setIfInBounds_ne (fun e => hj e.symm)]; exact hx
  have hr : ∀ o (l : List Value), (66 < o ∨ o + l.length ≤ 66) → w.rangeAt g o l → (w'.setCell ⟨g, 66, none⟩ v').rangeAt g o l := fun o l hk hr j x hj => by
    have hjl : j < l.length := by
      rcases Nat.lt_or_ge j l.length with h1 | h1
      · exact h1
      · rw [List.getElem?_eq_none h1] at hj; cases hj
    exact hoth (o + j) x (by omega) (hr j x hj)
  refine ⟨⟨_, hb', by simpa using hs⟩, hoth _ _ (by decide) h.ct, hr _ _ (.inr (by rw [byt_len, hp]; decide)) h.rp, hr _ _ (.inr (by rw [byt_len, hm]; decide)) h.rm, ?_, hr _ _ (.inl (by decide)) h.rk, hoth _ _ (by decide) h.co,
    own_keep (S := fun i => i = g) hO ((Only.refl (fun i => i = g) w').setCell (p := ⟨g, 66, none⟩) (fun _ => rfl) v') (fun b hb0 => by have := own_base hO b hb0; omega)⟩
  simp only [World.cell?, hb']
  rw [Array.getElem?_setIfInBounds_self_of_lt (by omega)]
  rfl
section
variable {P : Program}
theorem op_buildOne {o : Oper} {a : Act} {w : World} (t e : TypeId) (x : Operand) (ho : o.op = .buildSlice t 1 #[(0, x)])
    (cs : Array Value) (hx : a.eval x = .agg cs) (ie : TypeInfo) (z : Value) (size : Nat)
    (hu : P.underlying t = some (.slice e)) (hie : P.info? e = some ie) (hz : ie.zero = some z) (hs : ie.size = size) (hcs : cs.size = size) (hpos : 0 < size) (hsmall : size ≤ 2 ^ 24) :
    (execOp a.eval o).run P w = .ok (.value (.slice (some ⟨w.heap.size, 0, none⟩) 1 1)) (w.alloc (.cells cs e)) := by
  have h1 := Great.fill_whole (s := size) hpos [.agg cs] ((Array.range (1 * size)).map (z.cells[· % z.cells.size]!)) (fun v hv => by
    rw [List.mem_singleton.1 hv]; exact hcs) (by simp)
  have e1 : (#[(0, x)].map fun (p : Nat × Operand) => (p.1, a.eval p.2)).toList = (([Value.agg cs].zipIdx 0).map fun x => (x.2, x.1)) := by
    simp [hx]
  have hf : Instr.fill (fun i => some (i * ie.size, ie.size)) ((Array.range (1 * ie.size)).map (z.cells[· % z.cells.size]!)) (#[(0, x)].map fun (i, x) => (i, a.eval x)).toList = some cs := by
    rw [hs]
    refine (congrArg _ e1).trans (h1.trans ?_)
    simp [Value.cells]
  unfold execOp
  simp only [ho, Sem.run_bind, run_buildSlice w t e 1 _ cs ie z hu hie hz (by rw [hs]; omega) (by rw [hs]; omega) hf, Result.andThen_ok]
  rfl
end
section
variable {P : Program}
theorem wp_store1 {o : Oper} {a : Act} {w w' : World} {K : Act → World → Prop} {Q : Exit → Act → World → Prop} {T : TypeId} {x y : Operand} {p : Addr} {v : Value} (ho : o.op = .store T x y) (hx : a.eval x = .pointer (some p)) (hy : a.eval y = v) (hrun : (storeVar T p v).run P w = .ok () w') (h : K (a.put o.dst undef) w') : o.wp P a w K Q := by
  unfold Oper.wp execOp
  simp only [ho, hx, hy, Instr.storeAt, Instr.sureAddr, Sem.run_bind, Sem.run_pure, Result.andThen_ok, hrun]
  exact h
end
theorem run_store_slice (w : World) (g i : Nat) (A : Option Addr) (n c : Nat) (u : Value) (hc : w.cell? ⟨g, i, none⟩ = some u) (hf : w.frozen? ⟨g, i, none⟩ = false) : (storeVar 38 ⟨g, i, none⟩ (.slice A n c)).run Tryd.prog w = .ok () (w.setCell ⟨g, i, none⟩ (.slice A n c)) := by
  have hz := Tryd.sizeOf38 w
  have ha : (⟨g, i, none⟩ : Addr).add 0 = ⟨g, i, none⟩ := by unfold Addr.add; simp
  have hst : (store ⟨g, i, none⟩ (.slice A n c)).run Tryd.prog w = .ok () (w.setCell ⟨g, i, none⟩ (.slice A n c)) := by
    rw [run_store Tryd.prog w _ _ _ rfl, hc]
    simp [hf]
  simp [storeVar, hz, Value.cells, storeCells, ha, hst]
def KRet (w : World) (g : Nat) (st : Kst) (v : Value) (e : Ending) (w' : World) : Prop := e = .returned (.bool st.o) ∧ KGo w g 48 101 st v w'
set_option maxRecDepth 100000 in
set_option maxHeartbeats 2000000 in
theorem offer_open (w : World) (g : Nat) (st : Kst) (v : Value) (s : List Nat) (hok : KOK st) (h : KAt w g 48 101 st v) (hop : st.o = true) :
    Calls Tryd.prog 11 #[.pointer (some ⟨g, 0, none⟩), .agg (vb s)] w (KRet w g st v) := by
  have hzb : Below w.heap.size w (w.alloc (Obj.cells (vb s) 31)) := (Below.refl _ _).alloc (Nat.le_refl _) _
  have h1 := h.next hzb
  have hco := h1.co
  rw [hop] at hco
  have H1 := Lib.hid h1
  have HZB := Lib.hid hzb
  have HOP := Lib.hid hop
  have HKO := Lib.hid (kopen_c (w.alloc (Obj.cells (vb s) 31)) g true hco)
  clear h h1 hzb hop
  go_enter Tryd.func11, Tryd.ntmps11
  go_upto_region 1 with (refine Go.Great.wpList_boxTo rfl 31 (.tmp 1) rfl (some 3) rfl w.heap.size rfl (vb s) rfl ?_)
  generalize w.alloc (Obj.cells (vb s) 31) = Z at *
  go_wp2_with (go_at_call 10; (refine HKO.out.mono ?_); rintro e w2 ⟨rfl, rfl⟩)
  go_ret
  exact ⟨by rw [HOP.out]; rfl, v, H1.out, Only.of_below HZB.out, .inl rfl⟩
set_option maxRecDepth 100000 in
set_option maxHeartbeats 4000000 in
/-- nothing is laid in -/
theorem offer_no (w : World) (g : Nat) (st : Kst) (v : Value) (s : List Nat) (hs : s.length = 33) (hsl : ∀ c ∈ s, c < 256) (hn : st.n ≤ 800) (hok : KOK st) (h : KAt w g 48 101 st v) (hop : st.o = false) (hR : RoundsAt w) (hg0 : 0 < g) (hno : s.getD 0 0 = 0 ∨ hasV st.L (s.getD 0 0) st.n = true) :
    Calls Tryd.prog 11 #[.pointer (some ⟨g, 0, none⟩), .agg (vb s)] w (KRet w g (kTry st) v) := by
  have hzb : Below w.heap.size w (w.alloc (Obj.cells (vb s) 31)) := (Below.refl _ _).alloc (Nat.le_refl _) _
  have h1 := h.next hzb
  have hco := h1.co
  rw [hop] at hco
  obtain ⟨x, hx⟩ : ∃ x, x = s.getD 0 0 := ⟨_, rfl⟩
  have hx256 : x < 256 := by rw [hx]; exact getD_lt hsl 0
  have hsb : Blk (w.alloc (Obj.cells (vb s) 31)) w.heap.size 31 (vb s) := Blk.new w _ _
  have hcx : (w.alloc (Obj.cells (vb s) 31)).cell? ⟨w.heap.size, 0, none⟩ = some (.int .u8 x) := by rw [hx]; exact (hsb.cell 0).trans (vb_atF s 0 (by omega))
  have hsp := spa_posX (x := x) st.n hok.r.up
  have hth := there_is hsp hok.r.up
  obtain ⟨k, hk⟩ : ∃ k, k = posX st.L x st.n := ⟨_, rfl⟩
  rw [← hk] at hsp hth
  have hkn : k ≤ st.n := hsp.1
  have HBS := Lib.hid (fun W (hb : Below (w.alloc (Obj.cells (vb s) 31)).heap.size (w.alloc (Obj.cells (vb s) 31)) W) => bsearch_own (g + 1) st.n x k v st.L W (by omega) (h1.next hb).own hsp)
  rw [hth] at HBS
  rw [← hx] at hno
  generalize hasV st.L x st.n = hb at *
  have HNO := Lib.hid hno
  clear hno
  have H1 := Lib.hid h1
  have HZB := Lib.hid hzb
  have HSB := Lib.hid hsb
  have HOK := Lib.hid hok
  have HRO := Lib.hid (hR.next hzb)
  have HX := Lib.hid hx
  have HKX := Lib.hid hk
  clear h h1 hzb hsb hop hR hsp hth hx hk
  go_enter Tryd.func11, Tryd.ntmps11
  go_upto_region 1 with (refine Go.Great.wpList_boxTo rfl 31 (.tmp 1) rfl (some 3) rfl w.heap.size rfl (vb s) rfl ?_)
  generalize w.alloc (Obj.cells (vb s) 31) = Z at *
  have HW0 := Lib.hid HSB.out.lt
  go_upto_region 3 with fail
  have k0 := cell_ext (H1.out.cv)
  have k1 := cell_ext hcx
  refine wp_region_loud Z [] (fun k u W => True) (by kernel_rfl) (by kernel_rfl) (by kernel_rfl) (by kernel_rfl) (fun k u w1 w2 h hb => trivial) (Below.refl _ _).drew ?_
  repeat (first
    | (refine wpLoud_nilK (.tmp 18) rfl ⟨g, 0, none⟩ rfl rfl rfl _ (by simp only [Act.put, List.setIfInBounds_toArray, List.set_cons_succ, List.set_cons_zero]; rfl) ?_)
    | (refine wpLoud_call 24 rfl [] (.tuple #[.int .i64 k, .bool hb]) 20 (fun g => #[v, .int .u8 x, .func (.func 21) #[] #[]]) rfl (fun _ _ h => by cases h) rfl (fun g w => by kernel_rfl) (fun g y hg => by
        refine (HBS.out y.wd y.bel).mono ?_
        rintro e w' ⟨rfl, hb⟩
        exact ⟨_, rfl, hb, rfl⟩) _ (by simp only [Act.put, List.setIfInBounds_toArray, List.set_cons_succ, List.set_cons_zero]; rfl) ?_)
    | (refine wpLoud_plain rfl rfl rfl ?_; intro K hK; go_big_quiet_op; go_big_quiet_on))
  refine wpLoud_end [] (by rfl) ?_
  intro gg z hg
  have H2 := Lib.hid (H1.out.next z.bel)
  have HZ2 := Lib.hid (HZB.out.trans (z.bel.mono HZB.out.size))
  have hcx2 := (z.bel.cell (p := ⟨w.heap.size, 0, none⟩) HW0.out).trans hcx
  have HSB2 := Lib.hid (HSB.out.below z.bel HW0.out)
  have HRO2 := Lib.hid (HRO.out.next z.bel)
  clear hcx k0 k1 hco
  generalize z.wd = W1 at *
  simp only [fill, Act.put, List.setIfInBounds_toArray, List.set_cons_succ, List.set_cons_zero]
  clear hg H1 HZB HSB HBS HRO
  have HTR := Lib.hid (try_c W1 g st v (by omega) HOK.out H2.out HRO2.out hg0)
  have HST := Lib.hid (show (kTry st) = kTry st from rfl)
  rcases HNO.out with h0 | h0
  all_goals
    subst h0
    go_wp2_with (go_at_call 24; (refine HTR.out.mono ?_); rintro e w6 ⟨rfl, v6, h6, ho6, hf6⟩; have HK6 := Lib.hid h6; have HO6 := Lib.hid ho6; have HF6 := Lib.hid hf6; have hc99 := h6.co; clear h6 ho6 hf6)
    all_goals
      go_ret
      refine ⟨rfl, v6, HK6.out, (Only.of_below HZ2.out).then_ HO6.out (fun i hi h => h), ?_⟩
      rcases HF6.out with h3 | h3
      · exact .inl h3
      · exact .inr fun b hb => Nat.le_trans HZ2.out.size (h3 b hb)
set_option maxRecDepth 100000 in
set_option maxHeartbeats 4000000 in
/-- the share is laid in -/
theorem offer_yes (w : World) (g : Nat) (st : Kst) (v : Value) (s : List Nat) (hs : s.length = 33) (hsl : ∀ c ∈ s, c < 256) (hn : st.n ≤ 800) (hok : KOK st) (h : KAt w g 48 101 st v) (hop : st.o = false) (hR : RoundsAt w) (hg0 : 0 < g) (hnz : s.getD 0 0 ≠ 0) (hno : hasV st.L (s.getD 0 0) st.n = false) :
    Calls Tryd.prog 11 #[.pointer (some ⟨g, 0, none⟩), .agg (vb s)] w (KRet w g (kTry (kIns st s)) v) := by
  have hki : kIns st s = { st with n := st.n + 1, L := insL st.L (posX st.L (s.getD 0 0) st.n) s } := by unfold kIns; rw [if_pos ⟨hnz, hno⟩]
  have hok2 := kIns_ok hok hs hsl
  rw [hki] at hok2 ⊢
  have hzb : Below w.heap.size w (w.alloc (Obj.cells (vb s) 31)) := (Below.refl _ _).alloc (Nat.le_refl _) _
  have h1 := h.next hzb
  have hco := h1.co
  rw [hop] at hco
  obtain ⟨x, hx⟩ : ∃ x, x = s.getD 0 0 := ⟨_, rfl⟩
  have hx256 : x < 256 := by rw [hx]; exact getD_lt hsl 0
  have hsb : Blk (w.alloc (Obj.cells (vb s) 31)) w.heap.size 31 (vb s) := Blk.new w _ _
  have hcx : (w.alloc (Obj.cells (vb s) 31)).cell? ⟨w.heap.size, 0, none⟩ = some (.int .u8 x) := by rw [hx]; exact (hsb.cell 0).trans (vb_atF s 0 (by omega))
  have hsp := spa_posX (x := x) st.n hok.r.up
  have hth := there_is hsp hok.r.up
  obtain ⟨k, hk⟩ : ∃ k, k = posX st.L x st.n := ⟨_, rfl⟩
  rw [← hk] at hsp hth
  have hkn : k ≤ st.n := hsp.1
  have HBS := Lib.hid (fun W (hb : Below (w.alloc (Obj.cells (vb s) 31)).heap.size (w.alloc (Obj.cells (vb s) 31)) W) => bsearch_own (g + 1) st.n x k v st.L W (by omega) (h1.next hb).own hsp)
  rw [hth] at HBS
  rw [← hx] at hno hnz hok2 ⊢
  rw [← hk] at hok2 ⊢
  rw [hno] at HBS
  obtain ⟨hb, hhb⟩ : ∃ hb, hb = false := ⟨_, rfl⟩
  rw [← hhb] at HBS
  obtain ⟨st2, hst2⟩ : ∃ st2, st2 = { st with n := st.n + 1, L := insL st.L k s } := ⟨_, rfl⟩
  rw [← hst2] at hok2 ⊢
  have HST2 := Lib.hid hst2
  have HOK2 := Lib.hid hok2
  have HNZ := Lib.hid hnz
  clear hno hst2 hok2 hnz hki
  have H1 := Lib.hid h1
  have HZB := Lib.hid hzb
  have HSB := Lib.hid hsb
  have HOK := Lib.hid hok
  have HRO := Lib.hid (hR.next hzb)
  have HX := Lib.hid hx
  have HKX := Lib.hid hk
  clear h h1 hzb hsb hop hR hsp hth hx hk
  go_enter Tryd.func11, Tryd.ntmps11
  go_upto_region 1 with (refine Go.Great.wpList_boxTo rfl 31 (.tmp 1) rfl (some 3) rfl w.heap.size rfl (vb s) rfl ?_)
  generalize w.alloc (Obj.cells (vb s) 31) = Z at *
  have HW0 := Lib.hid HSB.out.lt
  go_upto_region 3 with fail
  have k0 := cell_ext (H1.out.cv)
  have k1 := cell_ext hcx
  refine wp_region_loud Z [] (fun k u W => True) (by kernel_rfl) (by kernel_rfl) (by kernel_rfl) (by kernel_rfl) (fun k u w1 w2 h hb => trivial) (Below.refl _ _).drew ?_
  repeat (first
    | (refine wpLoud_nilK (.tmp 18) rfl ⟨g, 0, none⟩ rfl rfl rfl _ (by simp only [Act.put, List.setIfInBounds_toArray, List.set_cons_succ, List.set_cons_zero]; rfl) ?_)
    | (refine wpLoud_call 24 rfl [] (.tuple #[.int .i64 k, .bool hb]) 20 (fun g => #[v, .int .u8 x, .func (.func 21) #[] #[]]) rfl (fun _ _ h => by cases h) rfl (fun g w => by kernel_rfl) (fun g y hg => by
        refine (HBS.out y.wd y.bel).mono ?_
        rintro e w' ⟨rfl, hb⟩
        exact ⟨_, rfl, hb, rfl⟩) _ (by simp only [Act.put, List.setIfInBounds_toArray, List.set_cons_succ, List.set_cons_zero]; rfl) ?_)
    | (refine wpLoud_plain rfl rfl rfl ?_; intro K hK; go_big_quiet_op; go_big_quiet_on))
  refine wpLoud_end [] (by rfl) ?_
  intro gg z hg
  have H2 := Lib.hid (H1.out.next z.bel)
  have HZ2 := Lib.hid (HZB.out.trans (z.bel.mono HZB.out.size))
  have hcx2 := (z.bel.cell (p := ⟨w.heap.size, 0, none⟩) HW0.out).trans hcx
  have HSB2 := Lib.hid (HSB.out.below z.bel HW0.out)
  have HRO2 := Lib.hid (HRO.out.next z.bel)
  clear hcx k0 k1 hco
  generalize z.wd = W1 at *
  simp only [fill, Act.put, List.setIfInBounds_toArray, List.set_cons_succ, List.set_cons_zero]
  clear hg H1 HZB HSB HBS HRO
  subst hhb
  have hxn : ¬ (x : Int) = 0 := by have := HNZ.out; omega
  obtain ⟨A, c, rfl, hc1, hc2, hrd⟩ := own_rd H2.out.own
  obtain ⟨i0, hi0, hz0, hz1, hz2⟩ := info_parts shInfo
  have HI := Lib.hid (And.intro hi0 (And.intro hz0 (And.intro hz1 hz2)))
  have HVS := Lib.hid (show (vb s).size = 33 by rw [vb_size, hs])
  have HSL := Lib.hid (show (Tryd.prog.info? 31).map (·.size) = some (byt s).length by rw [byt_len, hs]; kernel_rfl)
  clear hrd hi0 hz0 hz1 hz2
  go_upto_region 5 with fail
  have hxb : ((x : Int) != 0) = true := bne_iff_ne.2 hxn
  try simp only [hxb]
  go_cut [4] from 34 to 45 (fun a wx => a = .bool false ∧ ∃ v', KAt wx g 48 101 st2 v' ∧ Only (fun j => j = g ∨ (Value.slice A st.n c).ownBlock = some j) W1 wx ∧ (v'.ownBlock = (Value.slice A st.n c).ownBlock ∨ ∀ b, v'.ownBlock = some b → W1.heap.size ≤ b))
  case first =>
    have hdr : (fun _ : World => True) W1.drew := trivial
    have hY : KAt (W1.drew.alloc (.cells (vb s) 31)) g 48 101 st (.slice A st.n c) := H2.out.next ((Below.refl W1.heap.size W1).drew.alloc (Nat.le_refl _) _)
    have hYB : Below W1.heap.size W1 (W1.drew.alloc (.cells (vb s) 31)) := (Below.refl W1.heap.size W1).drew.alloc (Nat.le_refl _) _
    have hYV : Blk (W1.drew.alloc (.cells (vb s) 31)) W1.heap.size 31 (vb s) := Blk.new W1.drew _ _
    have hg1 : g < W1.heap.size := H2.out.lt
    have hin := insert_c (g + 1) st.n k c W1.heap.size A st.L s (W1.drew.alloc (.cells (vb s) 31)) hkn (by omega) (Nat.le_trans hg1 hYB.size) hY.own hs hYV (fun g' hg' he => by
      have := own_lt H2.out.own g' hg'
      omega)
    have HIN := Lib.hid hin
    have HYA := Lib.hid hY
    have HYB := Lib.hid hYB
    have HG1 := Lib.hid hg1
    have hcA := H2.out.cv
    have hcY := hY.cv
    have HL4 := Lib.hid (run_load_slice W1.drew ⟨g, 66, none⟩ _ hcA)
    have HL4Y := Lib.hid (run_load_slice _ ⟨g, 66, none⟩ _ hcY)
    have HL6 := Lib.hid (run_loadVar_mid (P := Tryd.prog) W1.drew w.heap.size 0 31 (byt s) _ (by have h := rangeAt_blk HSB2.out; exact h) Tryd.underlying31 rfl HSL.out)
    clear hin hY hYB hYV hg1 hcA hcY
    refine wp_region_held (S := fun _ => True) (by kernel_rfl) ?_
    show wpAnyH _ _ _ _ _ 12 _ _ W1.drew
    refine anyH_quiet 0 rfl (by kernel_rfl) (by kernel_rfl) (by kernel_rfl) (fun _ _ _ _ h => h) rfl rfl hdr ?_
    intro K hK
    conv => arg 2; whnf
    go_big_quiet_op
    go_big_quiet_on
    refine anyH_quiet 1 rfl (by kernel_rfl) (by kernel_rfl) (by kernel_rfl) (fun _ _ _ _ h => h) rfl rfl hdr ?_
    intro K hK
    conv => arg 2; whnf
    go_big_quiet_op
    go_big_quiet_on
    refine anyH_quiet 5 rfl (by kernel_rfl) (by kernel_rfl) (by kernel_rfl) (fun _ _ _ _ h => h) rfl rfl hdr ?_
    intro K hK
    conv => arg 2; whnf
    go_big_quiet_op
    go_big_quiet_on
    refine anyH_nil 2 rfl (by kernel_rfl) (by kernel_rfl) (by kernel_rfl) (fun _ _ _ _ h => h) rfl (.tmp 35) rfl ⟨g, 0, none⟩ rfl hdr _ (by conv => lhs; arg 2; whnf) ?_
    simp only [Act.put, List.setIfInBounds_toArray, List.set_cons_succ, List.set_cons_zero]
    refine anyH_quiet 3 rfl (by kernel_rfl) (by kernel_rfl) (by kernel_rfl) (fun _ _ _ _ h => h) rfl rfl hdr ?_
    intro K hK
    conv => arg 2; whnf
    go_big_quiet_op
    go_big_quiet_on
    refine anyH_two 4 6 (by kernel_rfl) rfl rfl rfl rfl ?_ ?_
    · refine op_value (op_load1 rfl rfl HL4.out) _ (by conv => lhs; arg 2; whnf) ⟨trivial, ?_⟩
      simp only [Act.put, List.setIfInBounds_toArray, List.set_cons_succ, List.set_cons_zero]
      refine anyH_op 6 (by kernel_rfl) rfl rfl ?_
      refine op_value (op_load1 rfl rfl HL6.out) _ (by conv => lhs; arg 2; whnf) ⟨trivial, ?_⟩
      simp only [Act.put, List.setIfInBounds_toArray, List.set_cons_succ, List.set_cons_zero]
      refine anyH_op 7 (by kernel_rfl) rfl rfl ?_
      refine op_value (op_buildOne 38 31 (.tmp 40) rfl (vb s) rfl i0 (.agg z33) 33 Tryd.underlying38 HI.out.1 HI.out.2.1 HI.out.2.2.1 HVS.out (by decide) (by decide)) _ (by conv => lhs; arg 2; whnf) ⟨trivial, ?_⟩
      simp only [Act.put, List.setIfInBounds_toArray, List.set_cons_succ, List.set_cons_zero]
      refine anyH_op 8 (by kernel_rfl) rfl rfl ?_
      refine op_call (by kernel_rfl) _ (fun v => by conv => lhs; arg 2; whnf) (HIN.out.mono ?_)
      rintro e w2 ⟨v', rfl, ho2, hon2, hl2⟩
      refine ⟨_, rfl, trivial, ?_⟩
      simp only [Act.put, List.setIfInBounds_toArray, List.set_cons_succ, List.set_cons_zero]
      refine anyH_nil 9 rfl (by kernel_rfl) (by kernel_rfl) (by kernel_rfl) (fun _ _ _ _ h => h) rfl (.tmp 34) rfl ⟨g, 0, none⟩ rfl trivial _ (by conv => lhs; arg 2; whnf) ?_
      simp only [Act.put, List.setIfInBounds_toArray, List.set_cons_succ, List.set_cons_zero]
      refine anyH_quiet 10 rfl (by kernel_rfl) (by kernel_rfl) (by kernel_rfl) (fun _ _ _ _ h => h) rfl rfl trivial ?_
      intro K hK
      conv => arg 2; whnf
      go_big_quiet_op
      go_big_quiet_on
      refine anyH_op 11 (by kernel_rfl) rfl rfl ?_
      have hg1 := HG1.out
      have hsg : ¬ (Value.slice A st.n c).ownBlock = some g := fun he => by have := own_base H2.out.own g he; omega
      have hcw : w2.cell? ⟨g, 66, none⟩ = some (.slice A st.n c) := hon2.cell HYA.out.cv hsg
      have hfw : w2.frozen? ⟨g, 66, none⟩ = false := by
        obtain ⟨cs, hb, _⟩ := HYA.out.bk
        exact freeOf ((hon2.block g HYA.out.lt hsg).trans hb)
      obtain ⟨A', c', rfl, _, _, _⟩ := own_rd ho2
      refine wp_store1 rfl rfl rfl (run_store_slice w2 g 66 A' _ c' _ hcw hfw) ⟨trivial, ?_⟩
      conv => arg 8; whnf
      refine wpAnyH_done (by kernel_rfl) ?_ _
      go_wp2_with fail
      go_meet
      refine ⟨rfl, _, (by rw [HST2.out]; exact HYA.out.swap hon2 hsg (by decide) HOK.out.pl HOK.out.ml _ _ _ ho2), ?_, ?_⟩
      · exact ((Only.of_below HYB.out).then_ hon2 (fun i hi h => .inr h)).setCell (p := ⟨g, 66, none⟩) (fun _ => .inl rfl) _
      · rcases hl2 with h | h
        · exact .inl h
        · exact .inr fun b hb => by rw [h] at hb; injection hb with hb; have := HYB.out.size; omega
    · refine op_value (op_load1 rfl rfl HL6.out) _ (by conv => lhs; arg 2; whnf) ⟨trivial, ?_⟩
      simp only [Act.put, List.setIfInBounds_toArray, List.set_cons_succ, List.set_cons_zero]
      refine anyH_two 4 7 (by kernel_rfl) rfl rfl rfl rfl ?_ ?_
      · refine op_value (op_load1 rfl rfl HL4.out) _ (by conv => lhs; arg 2; whnf) ⟨trivial, ?_⟩
        simp only [Act.put, List.setIfInBounds_toArray, List.set_cons_succ, List.set_cons_zero]
        refine anyH_op 7 (by kernel_rfl) rfl rfl ?_
        refine op_value (op_buildOne 38 31 (.tmp 40) rfl (vb s) rfl i0 (.agg z33) 33 Tryd.underlying38 HI.out.1 HI.out.2.1 HI.out.2.2.1 HVS.out (by decide) (by decide)) _ (by conv => lhs; arg 2; whnf) ⟨trivial, ?_⟩
        simp only [Act.put, List.setIfInBounds_toArray, List.set_cons_succ, List.set_cons_zero]
        refine anyH_op 8 (by kernel_rfl) rfl rfl ?_
        refine op_call (by kernel_rfl) _ (fun v => by conv => lhs; arg 2; whnf) (HIN.out.mono ?_)
        rintro e w2 ⟨v', rfl, ho2, hon2, hl2⟩
        refine ⟨_, rfl, trivial, ?_⟩
        simp only [Act.put, List.setIfInBounds_toArray, List.set_cons_succ, List.set_cons_zero]
        refine anyH_nil 9 rfl (by kernel_rfl) (by kernel_rfl) (by kernel_rfl) (fun _ _ _ _ h => h) rfl (.tmp 34) rfl ⟨g, 0, none⟩ rfl trivial _ (by conv => lhs; arg 2; whnf) ?_
        simp only [Act.put, List.setIfInBounds_toArray, List.set_cons_succ, List.set_cons_zero]
        refine anyH_quiet 10 rfl (by kernel_rfl) (by kernel_rfl) (by kernel_rfl) (fun _ _ _ _ h => h) rfl rfl trivial ?_
        intro K hK
        conv => arg 2; whnf
        go_big_quiet_op
        go_big_quiet_on
        refine anyH_op 11 (by kernel_rfl) rfl rfl ?_
        have hg1 := HG1.out
        have hsg : ¬ (Value.slice A st.n c).ownBlock = some g := fun he => by have := own_base H2.out.own g he; omega
        have hcw : w2.cell? ⟨g, 66, none⟩ = some (.slice A st.n c) := hon2.cell HYA.out.cv hsg
        have hfw : w2.frozen? ⟨g, 66, none⟩ = false := by
          obtain ⟨cs, hb, _⟩ := HYA.out.bk
          exact freeOf ((hon2.block g HYA.out.lt hsg).trans hb)
        obtain ⟨A', c', rfl, _, _, _⟩ := own_rd ho2
        refine wp_store1 rfl rfl rfl (run_store_slice w2 g 66 A' _ c' _ hcw hfw) ⟨trivial, ?_⟩
        conv => arg 8; whnf
        refine wpAnyH_done (by kernel_rfl) ?_ _
        go_wp2_with fail
        go_meet
        refine ⟨rfl, _, (by rw [HST2.out]; exact HYA.out.swap hon2 hsg (by decide) HOK.out.pl HOK.out.ml _ _ _ ho2), ?_, ?_⟩
        · exact ((Only.of_below HYB.out).then_ hon2 (fun i hi h => .inr h)).setCell (p := ⟨g, 66, none⟩) (fun _ => .inl rfl) _
        · rcases hl2 with h | h
          · exact .inl h
          · exact .inr fun b hb => by rw [h] at hb; injection hb with hb; have := HYB.out.size; omega
      · refine op_value (op_buildOne 38 31 (.tmp 40) rfl (vb s) rfl i0 (.agg z33) 33 Tryd.underlying38 HI.out.1 HI.out.2.1 HI.out.2.2.1 HVS.out (by decide) (by decide)) _ (by conv => lhs; arg 2; whnf) ⟨trivial, ?_⟩
        simp only [Act.put, List.setIfInBounds_toArray, List.set_cons_succ, List.set_cons_zero]
        refine anyH_op 4 (by kernel_rfl) rfl rfl ?_
        refine op_value (op_load1 rfl rfl HL4Y.out) _ (by conv => lhs; arg 2; whnf) ⟨trivial, ?_⟩
        simp only [Act.put, List.setIfInBounds_toArray, List.set_cons_succ, List.set_cons_zero]
        refine anyH_op 8 (by kernel_rfl) rfl rfl ?_
        refine op_call (by kernel_rfl) _ (fun v => by conv => lhs; arg 2; whnf) (HIN.out.mono ?_)
        rintro e w2 ⟨v', rfl, ho2, hon2, hl2⟩
        refine ⟨_, rfl, trivial, ?_⟩
        simp only [Act.put, List.setIfInBounds_toArray, List.set_cons_succ, List.set_cons_zero]
        refine anyH_nil 9 rfl (by kernel_rfl) (by kernel_rfl) (by kernel_rfl) (fun _ _ _ _ h => h) rfl (.tmp 34) rfl ⟨g, 0, none⟩ rfl trivial _ (by conv => lhs; arg 2; whnf) ?_
        simp only [Act.put, List.setIfInBounds_toArray, List.set_cons_succ, List.set_cons_zero]
        refine anyH_quiet 10 rfl (by kernel_rfl) (by kernel_rfl) (by kernel_rfl) (fun _ _ _ _ h => h) rfl rfl trivial ?_
        intro K hK
        conv => arg 2; whnf
        go_big_quiet_op
        go_big_quiet_on
        refine anyH_op 11 (by kernel_rfl) rfl rfl ?_
        have hg1 := HG1.out
        have hsg : ¬ (Value.slice A st.n c).ownBlock = some g := fun he => by have := own_base H2.out.own g he; omega
        have hcw : w2.cell? ⟨g, 66, none⟩ = some (.slice A st.n c) := hon2.cell HYA.out.cv hsg
        have hfw : w2.frozen? ⟨g, 66, none⟩ = false := by
          obtain ⟨cs, hb, _⟩ := HYA.out.bk
          exact freeOf ((hon2.block g HYA.out.lt hsg).trans hb)
        obtain ⟨A', c', rfl, _, _, _⟩ := own_rd ho2
        refine wp_store1 rfl rfl rfl (run_store_slice w2 g 66 A' _ c' _ hcw hfw) ⟨trivial, ?_⟩
        conv => arg 8; whnf
        refine wpAnyH_done (by kernel_rfl) ?_ _
        go_wp2_with fail
        go_meet
        refine ⟨rfl, _, (by rw [HST2.out]; exact HYA.out.swap hon2 hsg (by decide) HOK.out.pl HOK.out.ml _ _ _ ho2), ?_, ?_⟩
        · exact ((Only.of_below HYB.out).then_ hon2 (fun i hi h => .inr h)).setCell (p := ⟨g, 66, none⟩) (fun _ => .inl rfl) _
        · rcases hl2 with h | h
          · exact .inl h
          · exact .inr fun b hb => by rw [h] at hb; injection hb with hb; have := HYB.out.size; omega
  case rest =>
    obtain ⟨rfl, v5, hk5, ho5, hf5⟩ := hcut
    have hn5 : st2.n ≤ 900 := by rw [HST2.out]; show st.n + 1 ≤ 900; omega
    have hsg : ∀ j, (j = g ∨ (Value.slice A st.n c).ownBlock = some j) → j ≠ 0 := fun j hj => by
      rcases hj with h | h
      · omega
      · have := own_base H2.out.own j h; omega
    have HTR := Lib.hid (try_c wc g st2 v5 hn5 HOK2.out hk5 (HRO2.out.only ho5 (fun h => hsg 0 h rfl)) hg0)
    have HO5 := Lib.hid ho5
    have HF5 := Lib.hid hf5
    have HK5 := Lib.hid hk5
    clear hk5 ho5 hf5 hn5 hsg
    go_wp2_with (go_at_call 24; (refine HTR.out.mono ?_); rintro e w6 ⟨rfl, v6, h6, ho6, hf6⟩; have HK6 := Lib.hid h6; have HO6 := Lib.hid ho6; have HF6 := Lib.hid hf6; have hc99 := h6.co; clear h6 ho6 hf6)
    go_ret
    refine ⟨rfl, v6, HK6.out, ((Only.of_below HZ2.out).then_ HO5.out (fun i hi h => h)).then_ HO6.out (fun i hi h => ?_), ?_⟩
    · rcases h with h | h
      · exact .inl h
      · rcases HF5.out with h5 | h5
        · exact .inr (h5 ▸ h)
        · have h7 := h5 i h; have h8 := HZ2.out.size; omega
    · rcases HF6.out with h6 | h6
      · rcases HF5.out with h5 | h5
        · exact .inl (h6.trans h5)
        · exact .inr fun b hb => Nat.le_trans HZ2.out.size (h5 b (h6 ▸ hb))
      · exact .inr fun b hb => Nat.le_trans HZ2.out.size (Nat.le_trans HO5.out.size (h6 b hb))
theorem offer_c (w : World) (g : Nat) (st : Kst) (v : Value) (s : List Nat) (hs : s.length = 33) (hsl : ∀ c ∈ s, c < 256) (hn : st.n ≤ 800) (hok : KOK st) (h : KAt w g 48 101 st v) (hR : RoundsAt w) (hg0 : 0 < g) :
    Calls Tryd.prog 11 #[.pointer (some ⟨g, 0, none⟩), .agg (vb s)] w (KRet w g (kOffer st s) v) := by
  unfold kOffer
  cases ho : st.o with
  | true => rw [if_pos rfl]; exact offer_open w g st v s hok h ho
  | false =>
    rw [if_neg (by decide)]
    by_cases h0 : s.getD 0 0 = 0
    · have hk : kIns st s = st := by unfold kIns; rw [if_neg (fun hc => hc.1 h0)]
      rw [hk]
      exact offer_no w g st v s hs hsl hn hok h ho hR hg0 (.inl h0)
    · cases hv : hasV st.L (s.getD 0 0) st.n with
      | true =>
        have hk : kIns st s = st := by unfold kIns; rw [if_neg (fun hc => by rw [hv] at hc; cases hc.2)]
        rw [hk]
        exact offer_no w g st v s hs hsl hn hok h ho hR hg0 (.inr hv)
      | false => exact offer_yes w g st v s hs hsl hn hok h ho hR hg0 h0 hv
end Go.Proofs.YtdbfikcpaionbaaDoor
/- Contract: a new keeper. -/
namespace Go.Proofs.YtdbfikcpaionbaaDoor
open Go.RowKit
set_option linter.unusedVariables false
set_option linter.unusedSimpArgs false
set_option maxRecDepth 100000 in
set_option maxHeartbeats 2000000 in
theorem knew_c (t : Int) (p s : List Nat) (w : World) (hp : p.length = 32) (hpb : ∀ c ∈ p, c < 256) (hs : s.length = 33) (hsb : ∀ c ∈ s, c < 256) (h0 : -9223372036854775808 ≤ t) (h1 : t ≤ 9223372036854775807) :
    Calls Tryd.prog 7 #[.int .i64 t, .agg (vb p), .agg (vb s)] w fun e w' => ∃ g v, e = .returned (.pointer (some ⟨g, 0, none⟩)) ∧ w.heap.size ≤ g ∧ KAt w' g 48 101 (kNew t p s) v ∧ Below w.heap.size w w' ∧ ∀ b, v.ownBlock = some b → b = g + 1 := by
  have HPS := Lib.hid (sum_sz hp)
  have HSS := Lib.hid (share_size s hs)
  have hmk : ∀ W : World, (Instr.makeMap 46 none).run Tryd.prog W = .ok (.map (some W.heap.size)) (W.alloc (.map #[] 0)) := fun _ => rfl
  go_enter Tryd.func7, Tryd.ntmps7
  go_upto_region 1 with (first
    | (refine Go.Great.wpList_boxTo rfl 28 (.tmp 1) rfl (some 4) rfl w.heap.size rfl (vb p) rfl ?_)
    | (refine Go.Great.wpList_boxTo rfl 31 (.tmp 2) rfl (some 5) rfl (w.heap.size + 1) (by simp) (vb s) rfl ?_))
  have hz1 : Blk ((w.alloc (Obj.cells (vb p) 28)).alloc (Obj.cells (vb s) 31)) w.heap.size 28 (vb p) := (Blk.new w _ _).alloc _
  have hz2 : Blk ((w.alloc (Obj.cells (vb p) 28)).alloc (Obj.cells (vb s) 31)) (w.heap.size + 1) 31 (vb s) := by
    have h := Blk.new (w.alloc (Obj.cells (vb p) 28)) 31 (vb s)
    simpa using h
  have hzb : Below w.heap.size w ((w.alloc (Obj.cells (vb p) 28)).alloc (Obj.cells (vb s) 31)) := ((Below.refl _ _).alloc (Nat.le_refl _) _).alloc (by simp) _
  generalize (w.alloc (Obj.cells (vb p) 28)).alloc (Obj.cells (vb s) 31) = Z at *
  have HZ1 := Lib.hid hz1
  have HZ2 := Lib.hid hz2
  have HZB := Lib.hid hzb
  clear hz1 hz2 hzb
  go_upto_region 2 with (first
    | (refine wpList_load_row rfl 28 (.tmp 4) rfl w.heap.size rfl 28 (vb p) (0, 0) _ HZ1.out Tryd.underlying28 rfl HPS.out ?_)
    | (refine wpList_load_row rfl 31 (.tmp 5) rfl (w.heap.size + 1) rfl 31 (vb s) (0, 0) _ HZ2.out Tryd.underlying31 rfl HSS.out ?_)
    | (refine wpList_valK (.agg (kwC t p s (.map (some Z.heap.size)))) (by exact run_builtK _ 48 [(0, .int .i64 t), (1, .agg (vb p)), (2, .agg (vb s)), (6, .map (some Z.heap.size))] _ (kwC_built t p s (.map (some Z.heap.size)) hp hs rfl) #[(0, .tmp 8), (1, .tmp 9), (2, .tmp 10), (6, .tmp 11)] rfl (by kernel_rfl)) (by kernel_rfl) ?_))
  have hk1 : (((Z.alloc (.map #[] 0)).alloc (.cells (kwC t p s (.map (some Z.heap.size))) 48)).heap[Z.heap.size + 1]?) = some (.cells (kwC t p s (.map (some Z.heap.size))) 48 (0, 0)) := by
    have h := heapNew (Z.alloc (.map #[] 0)) (.cells (kwC t p s (.map (some Z.heap.size))) 48)
    simpa using h
  have hk2 := kwC_at hp hs hk1
  have hzb2 : Below w.heap.size w ((Z.alloc (.map #[] 0)).alloc (.cells (kwC t p s (.map (some Z.heap.size))) 48)) := (HZB.out.alloc HZB.out.size _).alloc (Nat.le_trans HZB.out.size (by simp)) _
  have hle : w.heap.size ≤ Z.heap.size + 1 := Nat.le_succ_of_le HZB.out.size
  have hys : ((Z.alloc (.map #[] 0)).alloc (.cells (kwC t p s (.map (some Z.heap.size))) 48)).heap.size = Z.heap.size + 1 + 1 := by simp
  generalize (Z.alloc (.map #[] 0)).alloc (.cells (kwC t p s (.map (some Z.heap.size))) 48) = Y at *
  generalize Z.heap.size + 1 = g at *
  have hok : KOK ⟨t, p, s, 0, [], z32L, false⟩ := ⟨hp, hpb, hs, hsb, show z32L.length = 32 by decide, show ∀ c ∈ z32L, c < 256 by decide, Rise.nil_, h0, h1⟩
  have HAL := Lib.hid (alone_x Y g _ _ hok hk2)
  have HYS := Lib.hid hys
  have HYB := Lib.hid hzb2
  clear hk1 hk2 hzb2 hok hys
  go_wp2_with (go_at_call 17; (refine HAL.out.mono ?_); rintro e w6 ⟨rfl, v6, h6, ho6, hf6⟩; have HK6 := Lib.hid h6; have HO6 := Lib.hid ho6; have HF6 := Lib.hid hf6; clear h6 ho6 hf6)
  go_ret
  refine ⟨g, v6, rfl, hle, HK6.out, HYB.out.trans (HO6.out.below (fun i hi => ?_) HYB.out.size), fun b hb => (HF6.out b hb).trans HYS.out⟩
  rcases hi with h | h
  · omega
  · cases h
set_option maxRecDepth 100000 in
set_option maxHeartbeats 2000000 in
theorem rnew_c (t : Int) (p s : List Nat) (w : World) (hp : p.length = 32) (hpb : ∀ c ∈ p, c < 256) (hs : s.length = 33) (hsb : ∀ c ∈ s, c < 256) (h0 : -9223372036854775808 ≤ t) (h1 : t ≤ 9223372036854775807) :
    Calls Tryd.prog 14 #[.int .i64 t, .agg (vb p), .agg (vb s)] w fun e w' => ∃ g v, e = .returned (.pointer (some ⟨g, 0, none⟩)) ∧ w.heap.size ≤ g ∧ KAt w' g 44 100 (kNew t p s) v ∧ Below w.heap.size w w' ∧ ∀ b, v.ownBlock = some b → b = g + 1 := by
  obtain ⟨i0, hi0, hi1, hi2, hi3⟩ := info_parts shInfo
  have HI := Lib.hid (And.intro hi0 (And.intro hi1 (And.intro hi2 hi3)))
  have HPS := Lib.hid (sum_sz hp)
  have HSS := Lib.hid (share_size s hs)
  have HVS := Lib.hid (show (vb s).size = 33 by rw [vb_size, hs])
  obtain ⟨x, hx⟩ : ∃ x, x = s.getD 0 0 := ⟨_, rfl⟩
  have hx256 : x < 256 := by rw [hx]; exact getD_lt hsb 0
  have HX := Lib.hid hx
  clear hi0 hi1 hi2 hi3
  go_enter Tryd.func14, Tryd.ntmps14
  go_upto_region 1 with (first
    | (refine Go.Great.wpList_boxTo rfl 28 (.tmp 1) rfl (some 4) rfl w.heap.size rfl (vb p) rfl ?_)
    | (refine Go.Great.wpList_boxTo rfl 31 (.tmp 2) rfl (some 5) rfl (w.heap.size + 1) (by simp) (vb s) rfl ?_))
  have hz1 : Blk ((w.alloc (Obj.cells (vb p) 28)).alloc (Obj.cells (vb s) 31)) w.heap.size 28 (vb p) := (Blk.new w _ _).alloc _
  have hz2 : Blk ((w.alloc (Obj.cells (vb p) 28)).alloc (Obj.cells (vb s) 31)) (w.heap.size + 1) 31 (vb s) := by
    have h := Blk.new (w.alloc (Obj.cells (vb p) 28)) 31 (vb s)
    simpa using h
  have hzb : Below w.heap.size w ((w.alloc (Obj.cells (vb p) 28)).alloc (Obj.cells (vb s) 31)) := ((Below.refl _ _).alloc (Nat.le_refl _) _).alloc (by simp) _
  generalize (w.alloc (Obj.cells (vb p) 28)).alloc (Obj.cells (vb s) 31) = Z at *
  have HZ1 := Lib.hid hz1
  have HZ2 := Lib.hid hz2
  have HZB := Lib.hid hzb
  clear hz1 hz2 hzb hx
  go_upto_region 2 with (first
    | (refine wpList_load_row rfl 28 (.tmp 4) rfl w.heap.size rfl 28 (vb p) (0, 0) _ HZ1.out Tryd.underlying28 rfl HPS.out ?_)
    | (refine wpList_load_row rfl 31 (.tmp 5) rfl (w.heap.size + 1) rfl 31 (vb s) (0, 0) _ HZ2.out Tryd.underlying31 rfl HSS.out ?_)
    | (refine wpList_valK (.agg (rwC t p s)) (by exact run_builtK _ 44 [(0, .int .i64 t), (1, .agg (vb p)), (2, .agg (vb s))] _ (rwC_built t p s hp hs) #[(0, .tmp 8), (1, .tmp 9), (2, .tmp 10)] rfl (by kernel_rfl)) (by kernel_rfl) ?_))
  have hk1 : (Z.alloc (.cells (rwC t p s) 44)).heap[Z.heap.size]? = some (.cells (rwC t p s) 44 (0, 0)) := heapNew Z _
  have hk2 := rwC_at hp hs hk1
  have hzb2 : Below w.heap.size w (Z.alloc (.cells (rwC t p s) 44)) := HZB.out.alloc HZB.out.size _
  have hle : w.heap.size ≤ Z.heap.size := HZB.out.size
  have hys : (Z.alloc (.cells (rwC t p s) 44)).heap.size = Z.heap.size + 1 := by simp
  have hz3 : Blk (Z.alloc (.cells (rwC t p s) 44)) (w.heap.size + 1) 31 (vb s) := HZ2.out.alloc _
  generalize Z.alloc (.cells (rwC t p s) 44) = Y at *
  generalize Z.heap.size = g at *
  have HK2 := Lib.hid hk2
  have HYB := Lib.hid hzb2
  have HZ3 := Lib.hid hz3
  have cx : Y.cell? ⟨w.heap.size + 1, 0, none⟩ = some (.int .u8 x) := by rw [HX.out]; exact (hz3.cell 0).trans (vb_atF s 0 (by omega))
  have HYS := Lib.hid hys
  clear hk1 hk2 hzb2 hz3 hys
  by_cases h0x : x = 0
  · subst h0x
    go_wp2_with fail
    go_ret
    refine ⟨g, .slice none 0 0, rfl, hle, ?_, HYB.out, fun b hb => by cases hb⟩
    have he : kNew t p s = ⟨t, p, s, 0, [], z32L, false⟩ := by unfold kNew aloN aloL; rw [if_pos HX.out.symm, if_pos HX.out.symm]
    rw [he]; exact HK2.out
  · have hgt : (x : Int) > 0 := by omega
    have h2 := HK2.out.next ((Below.refl Y.heap.size Y).alloc (Nat.le_refl _) (.cells (vb s) 31))
    have hcv2 := h2.cv
    have hf2 := (h2.there 66 1 (by decide) 0 (by decide)).2
    have ho := own_one Y (g + 1) s hs HK2.out.lt
    have h3 := h2.setV (by decide) hp hs (.slice (some ⟨Y.heap.size, 0, none⟩) 1 1) 1 s ho
    have H3 := Lib.hid h3
    have HB3 := Lib.hid ((HYB.out.alloc HYB.out.size (.cells (vb s) 31)).setCell (p := ⟨g, 66, none⟩) hle (.slice (some ⟨Y.heap.size, 0, none⟩) 1 1))
    clear h2 h3 ho
    go_wp2_with (first
      | (refine wpList_load_row rfl 31 (.tmp 5) rfl (w.heap.size + 1) rfl 31 (vb s) (0, 0) _ HZ3.out Tryd.underlying31 rfl HSS.out ?_)
      | (refine wpList_buildOne rfl 38 31 (.tmp 17) rfl (vb s) rfl i0 (.agg z33) 33 Tryd.underlying38 HI.out.1 HI.out.2.1 HI.out.2.2.1 HVS.out (by decide) (by decide) ?_))
    go_ret
    refine ⟨g, rfl, hle, .slice (some ⟨Y.heap.size, 0, none⟩) 1 1, ?_, HB3.out, fun b hb => by injection hb with hb; rw [← hb]; exact HYS.out⟩
    have hn : ¬ s.getD 0 0 = 0 := by rw [← HX.out]; exact h0x
    have he : kNew t p s = ⟨t, p, s, 1, s, z32L, false⟩ := by unfold kNew aloN aloL; rw [if_neg hn, if_neg hn]
    rw [he]; exact H3.out
end Go.Proofs.YtdbfikcpaionbaaDoor
/- Values made of what loud operations handed back (for the keeper); the document's shares walked: the place. -/
namespace Go.Proofs.YtdbfikcpaionbaaDoor
open Go.RowKit
set_option linter.unusedVariables false
set_option linter.unusedSimpArgs false
section
variable {P : Program} {ops : Array Oper} {Z : World} {ls : List Tmp} {V : Tmp → Value → World → Prop} {Q : Act → Prop} {rest : List Oper} {o : Oper} {b : Act}
/-- an operation that makes something new out of what loud operations handed back -/
theorem wpLoud_makeG (d : Tmp) (hd : o.dst = some d) (hl : ls.contains d = true) (need : List Tmp) (hw : Region.wanted o (yielded ops b.tmps) = true) (hsel : ∀ cs t, o.op ≠ .select cs t)
    (hn : (need.all fun k => ls.contains k && ((o.looksAt ops).contains k && isTok (b.eval (.tmp k)))) = true)
    (hc : ∀ (g : Tmp → Value) (x : Ext Z), (∀ k ∈ need, V k (g k) x.wd) → ∃ u w'', (execOp (over ls b g) o).run P x.wd = .ok (.value u) w'' ∧ Below x.wd.heap.size x.wd w'' ∧ V d u w'')
    (b' : Act) (hb : b.put o.dst tok = b') (h : wpLoud P ops Z ls V Q rest b') : wpLoud P ops Z ls V Q (o :: rest) b := by
  subst hb
  unfold wpLoud
  rw [if_pos hw]
  refine ⟨tok, fun a w hC hs => ?_, h⟩
  have he : ∀ x ∈ o.op.operands, a.eval x = over ls b (fun k => a.eval (.tmp k)) x := fun x hx => by
    cases x with
    | tmp k =>
      have hk : k ∈ o.looksAt ops := List.mem_append_left _ (List.mem_filterMap.2 ⟨.tmp k, by simpa using hx, rfl⟩)
      show _ = if ls.contains k then _ else _
      cases hcn : ls.contains k
      · exact (hs k hk).2 hcn
      · rfl
    | const v => rfl
    | global v => rfl
    | func v => rfl
  rw [execOp_congr o hsel he]
  obtain ⟨u, w'', h1, h2, h3⟩ := hc (fun k => a.eval (.tmp k)) ⟨w, hC⟩ (fun k hk => by
    have h1 := List.all_eq_true.1 hn k hk
    simp only [Bool.and_eq_true] at h1
    exact (hs k (by simpa using h1.2.1)).1 h1.1 (isTok_eq h1.2.2))
  have h1' : (execOp (over ls b fun k => a.eval (.tmp k)) o).run P w = .ok (.value u) w'' := h1
  rw [h1']
  exact .inr ⟨h2, fun d' hd' => by rw [hd] at hd'; injection hd' with hd'; subst hd'; exact ⟨hl, h3⟩⟩
end
section
variable {P : Program}
theorem run_nilO {o : Oper} {ρ : Operand → Value} {w : World} (x : Operand) (ho : o.op = .nilCheck x) (p : Addr) (hx : ρ x = .pointer (some p)) : (execOp ρ o).run P w = .ok (.value (.pointer (some p))) w := by
  unfold execOp
  simp [ho, hx]
theorem run_loadO {o : Oper} {ρ : Operand → Value} {w : World} {T : TypeId} {x : Operand} {p : Addr} {v : Value} (ho : o.op = .load T x) (hx : ρ x = .pointer (some p)) (hrun : (loadVar T p).run P w = .ok v w) : (execOp ρ o).run P w = .ok (.value v) w := by
  unfold execOp
  simp only [ho, hx, Instr.loadAt, Instr.sureAddr, Sem.run_bind, Sem.run_pure, Result.andThen_ok, hrun]
end
theorem run_fa66 {o : Oper} (ρ : Operand → Value) (w : World) (x : Operand) (ho : o.op = .fieldAddr 44 x 3) (g : Nat) (hx : ρ x = .pointer (some ⟨g, 0, none⟩)) : (execOp ρ o).run Tryd.prog w = .ok (.value (.pointer (some ⟨g, 66, none⟩))) w := by
  unfold execOp
  simp only [ho, hx]
  rfl
def KFr (w : World) (v v' : Value) : Prop := v'.ownBlock = v.ownBlock ∨ ∀ b, v'.ownBlock = some b → w.heap.size ≤ b
end Go.Proofs.YtdbfikcpaionbaaDoor
/- ShamirSums: the plain side; building a share. -/
namespace Go.Proofs.YtdbfikcpaionbaaDoor
open Go.RowKit
set_option linter.unusedVariables false
theorem wtl_congr {L M : List Nat} {n : Nat} (h : ∀ j, j < n → shX L j = shX M j) {i : Nat} (hi : i < n) : ∀ k, k ≤ n → wtl L i k = wtl M i k
  | 0, _ => rfl
  | k + 1, hk => by
    unfold wtl
    rw [wtl_congr h hi k (by omega), h k (by omega), h i hi]
theorem cmb_xor {A B C : List Nat} {n : Nat} (hx : ∀ j, j < n → shX A j = shX C j) (hx2 : ∀ j, j < n → shX B j = shX C j) (hy : ∀ j k, j < n → k < 32 → shY C j k = shY A j k ^^^ shY B j k) (k : Nat) (hk : k < 32) :
    ∀ j, j ≤ n → cmb C n j k = cmb A n j k ^^^ cmb B n j k
  | 0, _ => by simp [cmb]
  | j + 1, hj => by
    have ih := cmb_xor hx hx2 hy k hk j (by omega)
    unfold cmb
    rw [ih, hy j k (by omega) hk, gm_right, wtl_congr hx (by omega : j < n) n (Nat.le_refl _), wtl_congr hx2 (by omega : j < n) n (Nat.le_refl _)]
    exact xor_swap4 _ _ _ _
theorem plc_ok {L : List Nat} {n : Nat} (h0 : ∀ j, j < n → shX L j ≠ 0) (hd : ∀ i j, i < n → j < i → shX L j ≠ shX L i) : plc L n = 0 := by
  have hz : zeroX L n = false := by
    rw [zeroX, List.any_eq_false]
    intro j hj
    simpa using h0 j (List.mem_range.1 hj)
  have hdd : dupX L n = false := by
    rw [dupX, List.any_eq_false]
    intro i hi
    rw [hasX, Bool.not_eq_true, List.any_eq_false]
    intro j hj
    simpa using hd i j (List.mem_range.1 hi) (List.mem_range.1 hj)
  unfold plc
  rw [hz, hdd]
  rfl
/-- the shares of rows of keys: the place 7 i + 1, the bytes f i -/
def mkS (f : Nat → List Nat) (n : Nat) : List Nat := (List.range n).flatMap fun i => (7 * i + 1) :: f i
theorem mkS_succ (f : Nat → List Nat) (n : Nat) : mkS f (n + 1) = mkS f n ++ ((7 * n + 1) :: f n) := by simp [mkS, List.range_succ]
theorem mkS_len {f : Nat → List Nat} (hf : ∀ i, (f i).length = 32) (n : Nat) : (mkS f n).length = n * 33 := by
  induction n with
  | zero => rfl
  | succ n ih => rw [mkS_succ, List.length_append, ih, List.length_cons, hf]; omega
theorem mkS_at {f : Nat → List Nat} (hf : ∀ i, (f i).length = 32) (n : Nat) : ∀ k j, k < n → j < 33 → (mkS f n)[k * 33 + j]? = ((7 * k + 1) :: f k)[j]? := by
  induction n with
  | zero => intro k j h; omega
  | succ n ih =>
    intro k j h hj
    rw [mkS_succ]
    rcases Nat.lt_or_ge k n with h1 | h1
    · rw [List.getElem?_append_left (by rw [mkS_len hf]; omega)]
      exact ih k j h1 hj
    · obtain rfl : k = n := by omega
      rw [List.getElem?_append_right (by rw [mkS_len hf]; omega), mkS_len hf, Nat.add_sub_cancel_left]
theorem mkS_x {f : Nat → List Nat} (hf : ∀ i, (f i).length = 32) (n : Nat) {k : Nat} (hk : k < n) : shX (mkS f n) k = 7 * k + 1 := by
  have h := mkS_at hf n k 0 hk (by omega)
  rw [Nat.add_zero] at h
  unfold shX
  rw [List.getD_eq_getElem?_getD, h]
  rfl
theorem mkS_y {f : Nat → List Nat} (hf : ∀ i, (f i).length = 32) (n : Nat) {k j : Nat} (hk : k < n) (hj : j < 32) : shY (mkS f n) k j = (f k).getD j 0 := by
  have h := mkS_at hf n k (1 + j) hk (by omega)
  unfold shY
  rw [List.getD_eq_getElem?_getD, h, Nat.add_comm 1 j, List.getElem?_cons_succ, ← List.getD_eq_getElem?_getD]
theorem mkS_lt {f : Nat → List Nat} (hs : ∀ i, ∀ c ∈ f i, c < 256) {n : Nat} (hn : n ≤ 8) : ∀ c ∈ mkS f n, c < 256 := by
  intro c hc
  obtain ⟨i, hi, h⟩ := List.mem_flatMap.1 hc
  have hi := List.mem_range.1 hi
  rcases List.mem_cons.1 h with rfl | h
  · omega
  · exact hs i c h
theorem mkS_plc {f : Nat → List Nat} (hf : ∀ i, (f i).length = 32) (n : Nat) : plc (mkS f n) n = 0 :=
  plc_ok (fun j hj => by rw [mkS_x hf n hj]; omega) (fun i j hi hj => by rw [mkS_x hf n hi, mkS_x hf n (by omega)]; omega)
/-- row i of a row of keys -/
def krow (L : List Nat) (i : Nat) : List Nat := (List.range 32).map fun k => L.getD (i * 32 + k) 0
theorem krow_len (L : List Nat) (i : Nat) : (krow L i).length = 32 := by simp [krow]
theorem krow_at (L : List Nat) (i k : Nat) (hk : k < 32) : (krow L i).getD k 0 = L.getD (i * 32 + k) 0 := by simp [krow, List.getD_eq_getElem?_getD, hk]
theorem krow_lt {L : List Nat} (h : ∀ c ∈ L, c < 256) (i : Nat) : ∀ c ∈ krow L i, c < 256 := by
  intro c hc
  obtain ⟨k, _, rfl⟩ := List.mem_map.1 hc
  exact getD_lt h _
/-- sums of rows -/
def xrow (L M : List Nat) (i : Nat) : List Nat := fTo (fun k => L.getD (i * 32 + k) 0 ^^^ M.getD (i * 32 + k) 0) 32
theorem xrow_at (L M : List Nat) (i k : Nat) (hk : k < 32) : (xrow L M i).getD k 0 = (krow L i).getD k 0 ^^^ (krow M i).getD k 0 := by
  unfold xrow
  rw [fTo_at _ _ _ hk, if_pos hk, krow_at _ _ _ hk, krow_at _ _ _ hk]
theorem comR_xor (L M : List Nat) (n : Nat) (hn : 0 < n) (k : Nat) (hk : k < 32) :
    (comR (mkS (xrow L M) n) n).getD k 0 = (comR (mkS (krow L) n) n).getD k 0 ^^^ (comR (mkS (krow M) n) n).getD k 0 := by
  have hf1 := krow_len L
  have hf2 := krow_len M
  have hf3 : ∀ i, (xrow L M i).length = 32 := fun i => fTo_len _ _
  have hn0 : ¬ n = 0 := by omega
  unfold comR
  rw [if_neg hn0, if_neg hn0, if_neg hn0, if_pos (mkS_plc hf1 n), if_pos (mkS_plc hf2 n), if_pos (mkS_plc hf3 n), cmbTo_at _ _ _ _ _ hk, cmbTo_at _ _ _ _ _ hk, cmbTo_at _ _ _ _ _ hk, if_neg (by omega), if_neg (by omega), if_neg (by omega)]
  refine cmb_xor (fun j hj => by rw [mkS_x hf1 n hj, mkS_x hf3 n hj]) (fun j hj => by rw [mkS_x hf2 n hj, mkS_x hf3 n hj]) (fun j k hj hk => by rw [mkS_y hf3 n hj hk, mkS_y hf1 n hj hk, mkS_y hf2 n hj hk, xrow_at _ _ _ _ hk]) k hk n (Nat.le_refl _)
theorem comE_mkS {f : Nat → List Nat} (hf : ∀ i, (f i).length = 32) (n : Nat) (hn : 0 < n) : comE (mkS f n) n = 0 := by
  unfold comE
  rw [if_neg (by omega), mkS_plc hf n]
theorem built_fill (parts : List (Nat × Value)) : Tryd.prog.built 31 parts = Instr.fill (fun i => (#[(0, 1), (1, 32)] : Array (Nat × Nat))[i]?) z33 parts := by kernel_rfl
theorem fold_row (x : Nat) (y : List Nat) (hy : y.length = 32) : (vb y).zipIdx.foldl (fun cs (c, j) => cs.setIfInBounds (1 + j) c) (vb (x :: List.replicate 32 0)) = vb (x :: y) := by
  rw [← Array.foldl_toList, Array.toList_zipIdx]
  have h := Great.foldl_set 1 (byt y) 0 (vb (x :: List.replicate 32 0))
  have e : (vb y).toList = byt y := rfl
  rw [e]
  apply Array.ext_getElem?
  intro k
  refine (h.2 k).trans ?_
  have hs : (vb (x :: List.replicate 32 0)).size = 33 := by rw [vb_size]; rfl
  rw [byt_len, hy, hs]
  have e2 : (vb (x :: y))[k]? = (byt (x :: y))[k]? := by rw [vb, List.getElem?_toArray]
  have e3 : (vb (x :: List.replicate 32 0))[k]? = (byt (x :: List.replicate 32 0))[k]? := by rw [vb, List.getElem?_toArray]
  rw [e2, e3]
  cases k with
  | zero => simp [byt]
  | succ k =>
    by_cases hk : k < 32
    · rw [if_pos ⟨by omega, by omega, by omega⟩]
      simp [byt]
    · rw [if_neg (by omega)]
      simp only [byt, List.map_cons, List.getElem?_cons_succ]
      rw [List.getElem?_eq_none (by simp; omega), List.getElem?_eq_none (by simp; omega)]
/-- a share built of its place and its bytes -/
theorem built_share2 (x : Nat) (y : List Nat) (hy : y.length = 32) : Tryd.prog.built 31 [(0, .int .u8 (x : Int)), (1, .agg (vb y))] = some (vb (x :: y)) := by
  rw [built_fill]
  have hz : z33.size = 33 := z33_size
  have hv : (vb y).size = 32 := by rw [vb_size, hy]
  have h1 := z33_set x
  have h2 := fold_row x y hy
  have hC : (vb (x :: List.replicate 32 0)).size = 33 := by rw [vb_size]; rfl
  generalize vb (x :: List.replicate 32 0) = C0 at *
  simp only [Instr.fill, Value.cells]
  simp [hv] at h2
  simp [hz, hv, h1, h2, hC]
end Go.Proofs.YtdbfikcpaionbaaDoor
/- ShamirSums: three rows of the law's own. -/
namespace Go.Proofs.YtdbfikcpaionbaaDoor
open Go.RowKit
set_option linter.unusedVariables false
def SepF (u v : Value) : Prop := ∀ g, u.ownBlock = some g → v.ownBlock ≠ some g
theorem SepF.symm {u v : Value} (h : SepF u v) : SepF v u := fun g h1 h2 => h g h2 h1
/-- three rows of shares, apart -/
structure Own3 (w : World) (base : Nat) (a : Value) (na : Nat) (la : List Nat) (b : Value) (nb : Nat) (lb : List Nat) (c : Value) (nc : Nat) (lc : List Nat) : Prop where
  oa : OwnS w base a na la
  ob : OwnS w base b nb lb
  oc : OwnS w base c nc lc
  ab : SepF a b
  ac : SepF a c
  bc : SepF b c
theorem Own3.rot {w : World} {base na nb nc : Nat} {a b c : Value} {la lb lc : List Nat} (h : Own3 w base a na la b nb lb c nc lc) : Own3 w base b nb lb c nc lc a na la :=
  ⟨h.ob, h.oc, h.oa, h.bc, h.ab.symm, h.ac.symm⟩
theorem Own3.alloc {w : World} {base na nb nc : Nat} {a b c : Value} {la lb lc : List Nat} (h : Own3 w base a na la b nb lb c nc lc) (o : Obj) : Own3 (w.alloc o) base a na la b nb lb c nc lc :=
  ⟨own_alloc h.oa o, own_alloc h.ob o, own_alloc h.oc o, h.ab, h.ac, h.bc⟩
theorem Own3.keep {w w' : World} {base na nb nc : Nat} {a b c : Value} {la lb lc : List Nat} (h : Own3 w base a na la b nb lb c nc lc) (hb : Below w.heap.size w w') : Own3 w' base a na la b nb lb c nc lc :=
  ⟨own_keep (S := fun _ => False) h.oa (Only.of_below hb) (fun _ _ h => h), own_keep (S := fun _ => False) h.ob (Only.of_below hb) (fun _ _ h => h), own_keep (S := fun _ => False) h.oc (Only.of_below hb) (fun _ _ h => h), h.ab, h.ac, h.bc⟩
theorem Own3.app {w w' : World} {base na nb nc : Nat} {a b c a' : Value} {la lb lc new : List Nat} (h : Own3 w base a na la b nb lb c nc lc) (hap : Apped w base 31 33 a w' a' (na + 1) (byt la ++ byt new)) :
    Own3 w' base a' (na + 1) (la ++ new) b nb lb c nc lc := by
  have hs : ∀ v : Value, (∀ g, v.ownBlock = some g → g < w.heap.size) → SepF a v → SepF a' v := by
    intro v hv hsep g hg hg2
    rcases hap.lies with h1 | h1
    · exact hsep g (h1 ▸ hg) hg2
    · rw [h1] at hg
      injection hg with hg
      have := hv g hg2
      omega
  have ho : Only (fun k => a.ownBlock = some k) w w' := hap.only (fun g h => h)
  refine ⟨?_, own_keep h.ob ho (fun g h1 h2 => h.ab g h2 h1), own_keep h.oc ho (fun g h1 h2 => h.ac g h2 h1), hs b (own_lt h.ob) h.ab, hs c (own_lt h.oc) h.ac, h.bc⟩
  have h1 := hap.own
  rw [byt_app] at h1
  exact h1
theorem Own3.nil_ (w : World) (base : Nat) : Own3 w base (.slice none 0 0) 0 [] (.slice none 0 0) 0 [] (.slice none 0 0) 0 [] :=
  ⟨OwnS.nil_ _ _, OwnS.nil_ _ _, OwnS.nil_ _ _, fun g h => (by cases h), fun g h => (by cases h), fun g h => (by cases h)⟩
theorem OwnS.rds {w : World} {base n : Nat} {v : Value} {l : List Nat} (h : OwnS w base v n l) : ∃ A cap, v = .slice A n cap ∧ n ≤ cap ∧ cap ≤ maxLen ∧ RdS w w.heap.size A n l := by
  obtain ⟨A, cap, e, h1, h2, h3⟩ := own_rd h
  refine ⟨A, cap, e, h1, h2, ?_, h3⟩
  have := h.1
  rw [byt_len] at this
  exact this
end Go.Proofs.YtdbfikcpaionbaaDoor
/- Contract: Refresh, where shares may be refreshed. -/
namespace Go.Proofs.YtdbfikcpaionbaaDoor
open Go.RowKit
set_option linter.unusedVariables false
def zs32 : List Nat := List.replicate 32 0
/-- a share's values with another secret's shares (the secret 0) added, the first m places done -/
def gTo (L d : List Nat) (t j m : Nat) : List Nat := (List.range 32).map fun k => if k < m then shY L j k ^^^ sy zs32 d t (shX L j) k else shY L j k
theorem gTo_len (L d : List Nat) (t j m : Nat) : (gTo L d t j m).length = 32 := by simp [gTo]
theorem gTo_at (L d : List Nat) (t j m k : Nat) (h : k < 32) : (gTo L d t j m).getD k 0 = if k < m then shY L j k ^^^ sy zs32 d t (shX L j) k else shY L j k := by
  simp [gTo, List.getD_eq_getElem?_getD, h]
theorem gTo_set (L d : List Nat) (t j m : Nat) : (gTo L d t j m).set m (shY L j m ^^^ sy zs32 d t (shX L j) m) = gTo L d t j (m + 1) := by
  apply List.ext_getElem
  · simp [gTo]
  · intro i h1 h2
    simp only [gTo, List.getElem_set, List.getElem_map, List.getElem_range]
    by_cases h : m = i
    · subst h; simp
    · rw [if_neg h]
      by_cases h3 : i < m
      · rw [if_pos h3, if_pos (by omega)]
      · rw [if_neg h3, if_neg (by omega)]
theorem gTo_zero {L : List Nat} {n : Nat} (hL : L.length = n * 33) (d : List Nat) (t j : Nat) (hj : j < n) : shX L j :: gTo L d t j 0 = shR L j := by
  have hl := shR_len hL hj
  apply List.ext_getElem
  · rw [List.length_cons, gTo_len, hl]
  · intro i h1 h2
    have e : (shR L j)[i] = (shR L j).getD i 0 := by rw [List.getD_eq_getElem?_getD, List.getElem?_eq_getElem h2]; rfl
    rw [e, shR_at L j i (by omega)]
    cases i with
    | zero => rfl
    | succ i =>
      have h3 : i < 32 := by omega
      simp only [List.getElem_cons_succ]
      have e2 : (gTo L d t j 0)[i]'(by rw [gTo_len]; exact h3) = (gTo L d t j 0).getD i 0 := by rw [List.getD_eq_getElem?_getD, List.getElem?_eq_getElem (by rw [gTo_len]; exact h3)]; rfl
      rw [e2, gTo_at _ _ _ _ _ _ h3, if_neg (by omega)]
      unfold shY
      rw [Nat.add_comm 1 i]
/-- a share refreshed; shares in a row, refreshed -/
def rfS (L d : List Nat) (t j : Nat) : List Nat := shX L j :: gTo L d t j 32
def rfL (L d : List Nat) (t n : Nat) : List Nat := (List.range n).flatMap (rfS L d t)
theorem rfS_len (L d : List Nat) (t j : Nat) : (rfS L d t j).length = 33 := by rw [rfS, List.length_cons, gTo_len]
theorem rfL_succ (L d : List Nat) (t n : Nat) : rfL L d t (n + 1) = rfL L d t n ++ rfS L d t n := by simp [rfL, List.range_succ]
theorem rfL_len (L d : List Nat) (t n : Nat) : (rfL L d t n).length = n * 33 := by
  induction n with
  | zero => rfl
  | succ n ih => rw [rfL_succ, List.length_append, ih, rfS_len]; omega
theorem rfL_at (L d : List Nat) (t n : Nat) : ∀ k j, k < n → j < 33 → (rfL L d t n)[k * 33 + j]? = (rfS L d t k)[j]? := by
  induction n with
  | zero => intro k j h; omega
  | succ n ih =>
    intro k j h hj
    rw [rfL_succ]
    rcases Nat.lt_or_ge k n with h1 | h1
    · rw [List.getElem?_append_left (by rw [rfL_len]; omega)]
      exact ih k j h1 hj
    · obtain rfl : k = n := by omega
      rw [List.getElem?_append_right (by rw [rfL_len]; omega), rfL_len, Nat.add_sub_cancel_left]
theorem rfL_x (L d : List Nat) (t n : Nat) {k : Nat} (hk : k < n) : shX (rfL L d t n) k = shX L k := by
  have h := rfL_at L d t n k 0 hk (by omega)
  rw [Nat.add_zero] at h
  unfold shX
  rw [List.getD_eq_getElem?_getD, h]
  rfl
theorem rfL_y (L d : List Nat) (t n : Nat) {k j : Nat} (hk : k < n) (hj : j < 32) : shY (rfL L d t n) k j = shY L k j ^^^ sy zs32 d t (shX L k) j := by
  have h := rfL_at L d t n k (1 + j) hk (by omega)
  have h2 := gTo_at L d t k 32 j hj
  rw [if_pos hj] at h2
  unfold shY
  rw [List.getD_eq_getElem?_getD, h, rfS, Nat.add_comm 1 j, List.getElem?_cons_succ, ← List.getD_eq_getElem?_getD, h2]
  unfold shY
  rw [Nat.add_comm 1 j]
theorem zs32_lt : ∀ c ∈ zs32, c < 256 := by decide
theorem rfL_lt {L d : List Nat} (hl : ∀ c ∈ L, c < 256) (hd : ∀ c ∈ d, c < 256) (t n : Nat) : ∀ c ∈ rfL L d t n, c < 256 := by
  intro c hc
  obtain ⟨i, _, h⟩ := List.mem_flatMap.1 hc
  rcases List.mem_cons.1 h with rfl | h
  · exact shX_lt hl i
  · obtain ⟨k, _, rfl⟩ := List.mem_map.1 h
    split
    · exact xor_lt256 (shY_lt hl i k) (sy_lt zs32_lt hd t _ k)
    · exact shY_lt hl i k
/-- what Refresh keeps in memory -/
structure RfW (w : World) (T g1 : Nat) (o : Value) (n : Nat) (lo l : List Nat) (wr : World) : Prop where
  bt : TabAt wr T ftab
  b1 : Blk wr g1 31 (vb l)
  oo : OwnS wr w.heap.size o n lo
  ap : ∀ g, o.ownBlock = some g → g ≠ g1
  bel : Below w.heap.size w wr
  hT : T < g1
  hg : w.heap.size ≤ g1
theorem RfW.next {w wr w' : World} {T g1 n : Nat} {o : Value} {lo l : List Nat} (h : RfW w T g1 o n lo l wr) (hb : Below wr.heap.size wr w') : RfW w T g1 o n lo l w' :=
  ⟨h.bt.below hb (block_lt_tab h.bt), h.b1.below hb h.b1.lt, own_keep (S := fun _ => False) h.oo (Only.of_below hb) (fun _ _ h => h), h.ap, h.bel.trans (hb.mono h.bel.size), h.hT, h.hg⟩
theorem RfW.set_ {w wr : World} {T g1 n : Nat} {o : Value} {lo l : List Nat} (h : RfW w T g1 o n lo l wr) (i v : Nat) : RfW w T g1 o n lo (l.set i v) (wr.setCell ⟨g1, i, none⟩ (.int .u8 (v : Int))) :=
  ⟨(Below.heap_setCell wr _ _ T (by show T ≠ g1; have := h.hT; omega)).trans h.bt, by have := h.b1.set_ i (.int .u8 (v : Int)); rw [vb_setF] at this; exact this,
    own_keep (S := fun k => k = g1) h.oo ((Only.refl (fun k => k = g1) _).setCell (fun _ => rfl) _) (fun g hg h2 => h.ap g hg h2), h.ap, h.bel.setCell h.hg _, h.hT, h.hg⟩
end Go.Proofs.YtdbfikcpaionbaaDoor
/- Contract: Refresh. -/
namespace Go.Proofs.YtdbfikcpaionbaaDoor
open Go.RowKit
set_option linter.unusedVariables false
theorem sys_at2 (s d : List Nat) (t x i : Nat) (h : i < 32) : (sys s d t x).getD i 0 = sy s d t x i := sys_at s d t x i h
theorem tab_lt {w : World} {B : Nat} {t : Array Nat} (h : TabAt w B t) : B < w.heap.size := block_lt_tab h
end Go.Proofs.YtdbfikcpaionbaaDoor
/- ShamirCombines: contracts of the refused cases; the reference's Places. -/
namespace Go.Proofs.YtdbfikcpaionbaaDoor
open Go.RowKit
set_option linter.unusedVariables false
set_option maxRecDepth 100000 in
set_option maxHeartbeats 1000000 in
theorem places_nil (A : Option Addr) (cap : Nat) (w : World) : Calls Tryd.prog 39 #[.slice A 0 cap] w fun e w' => e = .returned (.int .i64 0) ∧ w = w' := by
  go_enter Tryd.func39, Tryd.ntmps39
  go_wp2_with fail
  go_step3
  go_wp2_with fail
  go_step3
  go_wp2_with fail
  go_wp2_with fail
  go_loopw [3, 10] (fun e i wr => i = .int .i64 0 ∧ e = .int .i64 0 ∧ w = wr) (fun _ _ _ => 0)
  case atStart => exact ⟨rfl, rfl, rfl⟩
  case round =>
    obtain ⟨rfl, rfl, rfl⟩ := hrel
    go_wp2_with fail
    rw [Exit.noGoto_ret]
    go_ret
    exact ⟨rfl, rfl⟩
end Go.Proofs.YtdbfikcpaionbaaDoor
/- ShamirHides: the walk. -/
namespace Go.Proofs.YtdbfikcpaionbaaDoor
open Go.RowKit
set_option linter.unusedVariables false
theorem zero_arr (w : World) : (zeroValue 22).run Tryd.prog w = .ok (.agg z32) w := by kernel_rfl
theorem Below.ofDrew_ {B : Nat} {w w' : World} (h : Below B w.drew w') : Below B w w' := ⟨h.os, h.tape, h.output, h.size, h.block⟩
/-- the three keys in memory -/
structure Hid3 (w : World) (a b d : List Nat) (wi : World) : Prop where
  ba : Blk wi w.heap.size 23 (vb a)
  bb : Blk wi (w.heap.size + 1) 23 (vb b)
  bd : Blk wi (w.heap.size + 1 + 1) 23 (vb d)
  bel : Below w.heap.size w wi
theorem Hid3.next {w wi w' : World} {a b d : List Nat} (h : Hid3 w a b d wi) (hb : Below wi.heap.size wi w') : Hid3 w a b d w' :=
  ⟨h.ba.below hb h.ba.lt, h.bb.below hb h.bb.lt, h.bd.below hb h.bd.lt, h.bel.trans (hb.mono h.bel.size)⟩
theorem Hid3.drewN {w wi : World} {a b d : List Nat} (h : Hid3 w a b d wi) (n : Nat) : Hid3 w a b d (wi.drewN n) := ⟨h.ba, h.bb, h.bd, belowDrewN n h.bel⟩
end Go.Proofs.YtdbfikcpaionbaaDoor
/- ShamirCombines: the reference's Combine. -/
namespace Go.Proofs.YtdbfikcpaionbaaDoor
open Go.RowKit
set_option linter.unusedVariables false
def upl (L : List Nat) (i : Nat) : Nat → Nat
  | 0 => 1
  | k + 1 => if k = i then upl L i k else gm (upl L i k) (shX L k)
def dnl (L : List Nat) (i : Nat) : Nat → Nat
  | 0 => 1
  | k + 1 => if k = i then dnl L i k else gm (dnl L i k) (shX L k ^^^ shX L i)
theorem upl_lt (L : List Nat) (i k : Nat) : upl L i k < 256 := by
  induction k with
  | zero => simp [upl]
  | succ k ih => unfold upl; split; exact ih; exact gm_lt _ _
theorem dnl_lt (L : List Nat) (i k : Nat) : dnl L i k < 256 := by
  induction k with
  | zero => simp [dnl]
  | succ k ih => unfold dnl; split; exact ih; exact gm_lt _ _
theorem plc_zero {L : List Nat} {n : Nat} (h : plc L n = 0) : (∀ j, j < n → shX L j ≠ 0) ∧ ∀ i j, i < n → j < n → i ≠ j → shX L j ≠ shX L i := by
  have hz : zeroX L n = false := by
    unfold plc at h
    cases hz : zeroX L n with
    | false => rfl
    | true => rw [hz] at h; simp at h
  have hd : dupX L n = false := by
    unfold plc at h
    rw [hz] at h
    cases hd : dupX L n with
    | false => rfl
    | true => rw [hd] at h; simp at h
  have key : ∀ i j, i < n → j < i → shX L j ≠ shX L i := fun i j hi hj he => by
    rw [dupX, List.any_eq_false] at hd
    exact hd i (List.mem_range.2 hi) (hasX_of hj he)
  refine ⟨fun j hj h0 => ?_, fun i j hi hj hne => ?_⟩
  · have := zeroX_of (L := L) (k := n) hj h0
    rw [hz] at this
    cases this
  · rcases Nat.lt_or_ge j i with h1 | h1
    · exact key i j hi h1
    · exact fun he => key j i hj (by omega) he.symm
theorem gm4 (a b c d : Nat) (ha : a < 256) (hb : b < 256) (hc : c < 256) (hd : d < 256) : gm (gm a b) (gm c d) = gm (gm a c) (gm b d) := by
  rw [gm_assoc a b (gm c d) ha hb (gm_lt _ _), ← gm_assoc b c d hb hc hd, gm_comm b c hb hc, gm_assoc c b d hc hb hd, ← gm_assoc a c (gm b d) ha hc (gm_lt _ _)]
theorem wtl_dnl {L : List Nat} {n i : Nat} (hl : ∀ c ∈ L, c < 256) (hd : ∀ j, j < n → i ≠ j → shX L j ≠ shX L i) : ∀ k, k ≤ n → gm (wtl L i k) (dnl L i k) = upl L i k ∧ dnl L i k ≠ 0
  | 0, _ => ⟨by show gm 1 1 = 1; exact gm_one 1 (by omega), by simp [dnl]⟩
  | k + 1, hk => by
    obtain ⟨h1, h2⟩ := wtl_dnl hl hd k (by omega)
    unfold wtl dnl upl
    by_cases hki : k = i
    · rw [if_pos hki, if_pos hki, if_pos hki]
      exact ⟨h1, h2⟩
    · rw [if_neg hki, if_neg hki, if_neg hki]
      have hx := shX_lt hl k
      have hy : shX L k ^^^ shX L i < 256 := xor_lt256 hx (shX_lt hl i)
      have hy0 : shX L k ^^^ shX L i ≠ 0 := xor_ne (hd k (by omega) (fun h => hki h.symm))
      refine ⟨?_, gm_ne (dnl_lt L i k) hy h2 hy0⟩
      rw [gm4 _ _ _ _ (wtl_lt L i k) (gm_lt _ _) (dnl_lt L i k) hy, h1, gm_assoc _ _ _ hx (finv_lt _) hy, gm_comm (finv _) _ (finv_lt _) hy, gm_finv _ hy hy0, gm_one _ hx]
theorem up_dn {L : List Nat} {n i : Nat} (hl : ∀ c ∈ L, c < 256) (hp : plc L n = 0) (hi : i < n) : gm (upl L i n) (rinv (dnl L i n)) = wtl L i n := by
  obtain ⟨h1, h2⟩ := wtl_dnl hl (fun j hj hne => (plc_zero hp).2 i j hi hj hne) n (Nat.le_refl _)
  have hdl := dnl_lt L i n
  have hr : rinv (dnl L i n) < 256 := by rw [rinv_is _ hdl h2]; exact tinv_lt ftab_small _
  rw [← h1, gm_assoc _ _ _ (wtl_lt L i n) hdl hr, gm_comm _ _ hdl hr, gm_rinv _ hdl h2, gm_one _ (wtl_lt L i n)]
/-- what the reference's Combine keeps in memory -/
structure RcW (w : World) (l : List Nat) (wr : World) : Prop where
  bo : Blk wr (w.heap.size + 1) 22 (vb l)
  br : Blk wr w.heap.size 22 z32
  bel : Below w.heap.size w wr
theorem RcW.drewN {w wr : World} {l : List Nat} (h : RcW w l wr) (n : Nat) : RcW w l (wr.drewN n) := ⟨h.bo, h.br, belowDrewN n h.bel⟩
theorem RcW.set_ {w wr : World} {l : List Nat} (h : RcW w l wr) (i v : Nat) : RcW w (l.set i v) (wr.setCell ⟨w.heap.size + 1, i, none⟩ (.int .u8 (v : Int))) :=
  ⟨by have := h.bo.set_ i (.int .u8 (v : Int)); rw [vb_setF] at this; exact this, h.br.far (by show w.heap.size ≠ w.heap.size + 1; omega) _, h.bel.setCell (by show w.heap.size ≤ w.heap.size + 1; omega) _⟩
set_option maxRecDepth 100000 in
set_option maxHeartbeats 1000000 in
theorem rcombine_c (n cap : Nat) (ad : Addr) (L : List Nat) (w : World) (hn : 0 < n) (hn2 : n ≤ 1000) (hcap : n ≤ cap) (hcap2 : cap ≤ 9223372036854775807) (hL : L.length = n * 33) (hl : ∀ c ∈ L, c < 256) (hb : ad.block < w.heap.size) (ha : AtA w ad (byt L)) (hp : plc L n = 0) :
    Calls Tryd.prog 26 #[.slice (some ad) n cap] w fun e w' => e = .returned (.agg (vb (cmbTo L n n 0))) ∧ Below w.heap.size w w' := by
  have HW := Lib.hid (fun i (hi : i < n) => up_dn hl hp hi)
  have HNZ := Lib.hid (fun i (hi : i < n) => (wtl_dnl hl (fun j hj hne => (plc_zero hp).2 i j hi hj hne) n (Nat.le_refl _)).2)
  have HA := Lib.hid ha
  have HL := Lib.hid hl
  have zs := zero_arr
  have zn := z32_size
  have ze := z32_ne
  clear ha hl hp
  go_enter Tryd.func26, Tryd.ntmps26
  go_wp2_with fail
  have h0 : RcW w (cmbTo L n 0 0) ((w.alloc (.cells z32 22)).alloc (.cells z32 22)) := by
    rw [cmbTo_zero]
    exact ⟨heap_alloc2_new _ _ _, heap_alloc2_old _ _ _, ((Below.refl _ _).alloc (Nat.le_refl _) _).alloc (by simp) _⟩
  have H0 := Lib.hid h0
  clear h0
  go_loopw [4] (fun i wr => ∃ j : Nat, j ≤ n ∧ i = .int .i64 j ∧ RcW w (cmbTo L n j 0) wr) (fun i _ => n - (intOf i).toNat)
  case atStart => exact ⟨0, by omega, rfl, H0.out⟩
  case round =>
    rename World => wr
    obtain ⟨j, hj, rfl, hrc⟩ := hrel
    have HR := Lib.hid hrc
    clear hrc H0
    by_cases hlt : j < n
    · have HAt := Lib.hid (HA.out.below HR.out.bel hb)
      have cj : wr.cell? (ad.add (j * 33)) = some (.int .u8 (shX L j : Nat)) := HAt.out.x hL hlt
      have hxj := shX_lt HL.out j
      have hjn : (j : Int) < (n : Int) := by omega
      go_wp2_with fail
      have e13 : decide (j < n) = true := decide_eq_true hlt
      go_loopw [5, 6, 7] (fun a b i wr2 => ∃ k z : Nat, k ≤ n ∧ i = .int .i64 k ∧ a = .int .u8 (upl L j k : Nat) ∧ b = .int .u8 (dnl L j k : Nat) ∧ wr2 = wr.drewN z) (fun _ _ i _ => n - (intOf i).toNat)
      case atStart => exact ⟨0, 0, by omega, rfl, rfl, rfl, rfl⟩
      case round =>
        obtain ⟨k, z, hk, rfl, rfl, rfl, rfl⟩ := hrel
        have hul := upl_lt L j k
        have hdl := dnl_lt L j k
        by_cases hkn : k < n
        · have ck : wr.cell? (ad.add (k * 33)) = some (.int .u8 (shX L k : Nat)) := HAt.out.x hL hkn
          have hxk := shX_lt HL.out k
          have hki : (k : Int) < (n : Int) := by omega
          have HU := Lib.hid (show upl L j (k + 1) = if k = j then upl L j k else gm (upl L j k) (shX L k) from rfl)
          have HD := Lib.hid (show dnl L j (k + 1) = if k = j then dnl L j k else gm (dnl L j k) (shX L k ^^^ shX L j) from rfl)
          have hxc : bits BinOp.xor .u8 (shX L k : Nat) (shX L j : Nat) = ((shX L k ^^^ shX L j : Nat) : Int) := u8_xor_nat _ _ hxk hxj
          have hxl := xor_lt256 hxk hxj
          generalize shX L k = xk at *
          generalize xk ^^^ shX L j = xx at *
          generalize upl L j k = u at *
          generalize dnl L j k = v at *
          by_cases hkj : k = j
          · have tk : ((k : Int) != (j : Int)) = false := by rw [hkj]; simp
            have hu2 : upl L j (k + 1) = u := by rw [HU.out, if_pos hkj]
            have hd2 : dnl L j (k + 1) = v := by rw [HD.out, if_pos hkj]
            have HU2 := Lib.hid hu2
            have HD2 := Lib.hid hd2
            clear hkj hu2 hd2
            go_wp2_with fail
            go_roundw
            case rel =>
              go_light
              exact ⟨k + 1, z, by omega, by go_num, by rw [HU2.out], by rw [HD2.out], rfl⟩
            case measure => simp [intOf]; omega
          · have tk : ((k : Int) != (j : Int)) = true := bne_iff_ne.2 (by omega)
            have hu2 : upl L j (k + 1) = gm u xk := by rw [HU.out, if_neg hkj]
            have hd2 : dnl L j (k + 1) = gm v xx := by rw [HD.out, if_neg hkj]
            have HU2 := Lib.hid hu2
            have HD2 := Lib.hid hd2
            clear hkj hu2 hd2
            go_upto_region 11 with (go_at_call 29; ((with_reducible refine (rmul_c u xk _ hul hxk).mono ?_); rintro e w4 ⟨rfl, rfl⟩))
            refine wp_region_class (fun z => wr.drewN z) (by kernel_rfl) (by kernel_rfl) ⟨z + 1, rfl⟩ ?_
            repeat (go_big_quiet_step ((go_at_call 29; exact quiet_from (rmul_c v xx _ hdl hxl))))
            refine wpQuiet_nil ?_
            rintro _ ⟨z3, rfl⟩
            go_wp2_with fail
            go_roundw
            case rel =>
              go_light
              exact ⟨k + 1, z3, by omega, by go_num, by rw [HU2.out], by rw [HD2.out], rfl⟩
            case measure => simp [intOf]; omega
        · have hkn2 : k = n := by omega
          have hv := HW.out j hlt
          have hnz := HNZ.out j hlt
          have hrv : rinv (dnl L j n) < 256 := by rw [rinv_is _ (dnl_lt L j n) hnz]; exact tinv_lt ftab_small _
          have hv : gm (upl L j k) (rinv (dnl L j k)) = wtl L j n := by rw [hkn2]; exact hv
          have hrv : rinv (dnl L j k) < 256 := by rw [hkn2]; exact hrv
          clear hnz
          have HV := Lib.hid hv
          generalize upl L j k = U at *
          generalize dnl L j k = D at *
          have HRI := Lib.hid (fun W => rinv_c D W hdl)
          generalize rinv D = V at *
          have HC0 := Lib.hid (HR.out.drewN z)
          have tkn : decide (k < n) = false := decide_eq_false hkn
          have tkn2 : decide ((k : Int) < (n : Int)) = false := decide_eq_false (by omega)
          clear hv hkn hkn2 hk cj
          go_wp2_with (first
            | (go_at_call 36; ((with_reducible refine (HRI.out _).mono ?_); rintro e w4 ⟨rfl, rfl⟩))
            | (go_at_call 29; ((with_reducible refine (rmul_c U V _ hul hrv).mono ?_); rintro e w5 ⟨rfl, rfl⟩; rw [HV.out])))
          have hwl := wtl_lt L j n
          have HCS := Lib.hid (fun k => (show cmb L n (j + 1) k = cmb L n j k ^^^ gm (wtl L j n) (shY L j k) from rfl))
          generalize wtl L j n = v at *
          go_loopw [9] (fun i wr5 => ∃ m : Nat, m ≤ 32 ∧ i = .int .i64 m ∧ RcW w (cmbTo L n j m) wr5) (fun i _ => 32 - (intOf i).toNat)
          case atStart => exact ⟨0, by omega, rfl, HC0.out⟩
          case round =>
            rename World => wr5
            obtain ⟨m, hm, rfl, hrc⟩ := hrel
            have HC := Lib.hid hrc
            clear hrc
            by_cases hm32 : m < 32
            · have hyl := shY_lt HL.out j m
              have HCM := Lib.hid (HCS.out m)
              have HST := Lib.hid (cmbTo_set L n j m)
              have hcl := cmb_lt L n j m
              have d4 : wr5.cell? ⟨w.heap.size + 1, m, none⟩ = some (.int .u8 (cmb L n j m : Nat)) := by
                have h := (HC.out.bo.cell m).trans (vb_atF _ m (by rw [cmbTo_len]; exact hm32))
                rw [cmbTo_at _ _ _ _ _ hm32, if_neg (by omega)] at h
                exact h
              have f4 : wr5.frozen? ⟨w.heap.size + 1, m, none⟩ = false := HC.out.bo.free m
              have hA5 := HA.out.below HC.out.bel hb
              have y1 : wr5.cell? (ad.add (j * 33 + (1 + m))) = some (.int .u8 (shY L j m : Nat)) := hA5 _ _ (byt_at (by omega))
              have y2 : wr5.cell? ((ad.add (j * 33)).add (1 + m)) = some (.int .u8 (shY L j m : Nat)) := by rw [Addr.add_add]; exact y1
              have y5 : wr5.cell? ⟨(ad.add (j * 33)).block, (ad.add (j * 33)).off + 1 + m, none⟩ = some (.int .u8 (shY L j m : Nat)) := by
                have e5 : (⟨(ad.add (j * 33)).block, (ad.add (j * 33)).off + 1 + m, none⟩ : Addr) = (ad.add (j * 33)).add (1 + m) := by
                  generalize ad.add (j * 33) = p
                  cases p
                  simp [Addr.add, Nat.add_assoc]
                rw [e5]; exact y2
              have hgl := gm_lt v (shY L j m)
              have hxc : bits BinOp.xor .u8 (cmb L n j m : Nat) (gm v (shY L j m) : Nat) = ((cmb L n j m ^^^ gm v (shY L j m) : Nat) : Int) := u8_xor_nat _ _ hcl hgl
              have hres := xor_lt256 hcl hgl
              clear hA5
              generalize shY L j m = y at *
              generalize cmb L n j m = c at *
              generalize hcr : c ^^^ gm v y = cr2 at *
              clear hcr
              go_wp2_with fail
              refine wp_region_still_tail 15 (by kernel_rfl) (by kernel_rfl) ?_
              simp only [List.take_succ_cons, List.take_zero, List.drop_succ_cons, List.drop_zero]
              iterate 12 still_step
              still_call ((rmul_c v y _ hwl hyl).mono fun _ _ h => ⟨h.1, h.2.symm⟩)
              repeat still_step
              try refine wpStill_nil ?_
              change wpList _ _ _ _ _ wr5.drew
              go_wp2_with fail
              go_roundw
              case rel =>
                go_light
                refine ⟨m + 1, by omega, by go_num, ?_⟩
                have h := (HC.out.set_ m cr2).drewN 1
                rw [← HCM.out, HST.out] at h
                rw [← HCM.out]
                exact h
              case measure => simp [intOf]; omega
            · have hm2 : m = 32 := by omega
              have hc := HC.out
              rw [hm2, cmbTo_all] at hc
              have HC2 := Lib.hid hc
              clear hc hm2
              go_wp2_with fail
              go_roundw
              case rel =>
                go_light
                exact ⟨j + 1, by omega, by go_num, HC2.out⟩
              case measure => simp [intOf]; omega
    · have hjn : j = n := by omega
      have hc := HR.out
      rw [hjn] at hc
      have HC2 := Lib.hid hc
      have hol := cmbTo_len L n n 0
      have hos : (Tryd.prog.info? 22).map (·.size) = some (vb (cmbTo L n n 0)).size := by rw [vb_size, hol]; kernel_rfl
      have HOS := Lib.hid hos
      have HOL := Lib.hid (key_z32 _ hol)
      clear hc hjn hol hos
      go_wp2_with (first
        | (refine wpList_load_row rfl 22 (.tmp 3) rfl (w.heap.size + 1) rfl 22 _ _ _ HC2.out.bo Tryd.underlying22 rfl HOS.out ?_)
        | (refine wpList_store_rowTo rfl 22 (.tmp 2) (.tmp 68) rfl rfl w.heap.size (vb (cmbTo L n n 0)) rfl rfl 22 z32 HC2.out.br HOS.out HOL.out (vb_oneF _) ?_))
      (try simp only [Exit.inBlock, Exit.then])
      refine bodyPost_ret (results_cell_row rfl _ _ w.heap.size 22 (vb (cmbTo L n n 0)) (0, 0) _ rfl (Blk.row (old := z32) HC2.out.br) Tryd.underlying22 rfl HOS.out) rfl ?_
      exact ⟨rfl, Below.setRow HC2.out.bel (Nat.le_refl _) _⟩
end Go.Proofs.YtdbfikcpaionbaaDoor
