/- Merged: Mrk Held Drv Mrk2 Rdrv. -/
import Derived.Test.YthlmlmkabjppeaaDoorExpM
import Derived.Lib.ConvBytes
import Derived.Laws.IdiomCopy
import Derived.OrdersHeld
import Derived.Test.YthlmlmkabjppeaaDoorLou
import Derived.Laws.Cover3
import Derived.Deep.RegionHeld
namespace Go.Proofs.YthlmlmkabjppeaaDoor
open Go.RowKit
set_option linter.unusedVariables false
set_option linter.unusedSimpArgs false
/-- a row that a text was turned into: its last place but one is marked -/
def MarkAt (w : World) (g cap : Nat) (s : List Nat) : Prop := ∃ cur : Array Value, w.heap[g]? = some (.cells cur 5 (cur.size, cur.size + 1)) ∧ cur.size = cap ∧ s.length ≤ cap ∧ cap ≤ maxLen ∧ ∀ j, j < s.length → cur[j]? = some (.int .u8 (s.getD j 0 : Nat))
theorem MarkAt.next {w w' : World} {g cap : Nat} {s : List Nat} (h : MarkAt w g cap s) (hb : Below w.heap.size w w') : MarkAt w' g cap s := by
  obtain ⟨cur, hg, r⟩ := h
  refine ⟨cur, ?_, r⟩
  have hlt : g < w.heap.size := (Array.getElem?_eq_some_iff.1 hg).1
  rw [hb.block g hlt]; exact hg
theorem conv_str (w : World) (s : List Nat) (hs : ∀ c ∈ s, c < 256) (hl : s.length ≤ 10000) : ∃ cap W', (convert 9 22 (.string (bstr s))).run Tryd.prog w = .ok (.slice (some ⟨w.heap.size, 0, none⟩) s.length cap) W' ∧ MarkAt W' w.heap.size cap s ∧ Below w.heap.size w W' := by
  have h1 := Lib.run_convert_string_bytes (P := Tryd.prog) w 9 22 5 (bstr s) Tryd.underlying9 Tryd.underlying22 Tryd.underlying5
  rw [bstr_size] at h1
  have hsz : (bstr s).size = s.length := bstr_size s
  have hcap : s.length ≤ grownCap w s.length 0 5 := grownCap_ge w s.length 0 5
  have hmax : grownCap w s.length 0 5 ≤ maxLen := grownCap_le_maxLen w s.length 0 5 (by simp [maxLen]; omega)
  have hcs : (Lib.bytesCells w 5 (bstr s)).size = grownCap w s.length 0 5 := by
    unfold Lib.bytesCells
    rw [Array.size_append, Array.size_map, Array.size_replicate, hsz]
    have : (bstr s).data.size = s.length := hsz
    omega
  refine ⟨_, _, h1, ⟨Lib.bytesCells w 5 (bstr s), Lib.bytesWorld_at_new w 5 (bstr s), hcs, hcap, hmax, fun j hj => ?_⟩, ?_⟩
  · have hb := hs _ (List.getElem_mem hj)
    unfold Lib.bytesCells
    rw [Array.getElem?_append_left (by rw [Array.size_map]; show j < (bstr s).size; rw [hsz]; exact hj)]
    simp [bstr, hj, List.getD_eq_getElem?_getD]
    omega
  · refine ⟨?_, ?_, ?_, ?_, ?_⟩
    · rfl
    · rfl
    · rfl
    · rw [Lib.bytesWorld_size]; omega
    · intro i hi
      exact Lib.bytesWorld_at_old w 5 (bstr s) i hi
/-- one byte more -/
theorem app_mark (w : World) (g cap B : Nat) (s : List Nat) (c : Nat) (ty : TypeId) (A : Option Addr) (ca : Nat) (Bs : Nat) (hm : MarkAt w g cap s) (hB : B ≤ g) (hs : s.length ≤ 10000) (hr : Rd w Bs A (byt [c])) :
    ∃ v' w', (Builtin.append_ #[22, 22] ty #[.slice (some ⟨g, 0, none⟩) s.length cap, .slice A 1 ca]).run Tryd.prog w = .ok v' w' ∧ (∃ A' c', v' = .slice A' (s.length + 1) c' ∧ Rd w' w'.heap.size A' (byt (s ++ [c]))) ∧ Below B w w' := by
  obtain ⟨i0, hi, hz0, hz1, hz2⟩ := info_parts byteInfo
  obtain ⟨ad, rfl, _, hc⟩ := hr (by simp [byt])
  obtain ⟨cur, hg, hcs, hle, hmx, hcur⟩ := hm
  have hlt : g < w.heap.size := (Array.getElem?_eq_some_iff.1 hg).1
  have hcell : ∀ j, j < s.length → w.cell? ⟨g, j, none⟩ = some (.int .u8 (s.getD j 0 : Nat)) := fun j hj => by
    simp only [World.cell?, hg]
    exact hcur j hj
  by_cases hroom : s.length + 1 ≤ cap
  · have hcn : (w.cell? ⟨g, s.length, none⟩).isSome = true := by
      simp only [World.cell?, hg]
      simp; omega
    have hfz : w.frozen? ⟨g, s.length, none⟩ = false := by
      simp [World.frozen?, hg]; omega
    have hf := run_firstCells_some (P := Tryd.prog) w i0.size 1 ad 1 ca (byt [c]) (by rw [hz1]; rfl) hc
    have hst := run_storeCells_cells (P := Tryd.prog) g s.length (byt [c]) 0 w (fun j hj => by
      have : j = 0 := by simp [byt] at hj; exact hj
      subst this; exact hcn) (fun j hj => by
      have : j = 0 := by simp [byt] at hj; exact hj
      subst this; exact hfz) (byt_one [c])
    rw [Nat.add_zero] at hst
    rw [hz1] at hf
    refine ⟨.slice (some ⟨g, 0, none⟩) (s.length + 1) cap, w.setCell ⟨g, s.length, none⟩ (.int .u8 (c : Nat)), ?_, ⟨_, _, rfl, ?_⟩, ?_⟩
    · have hst' : (storeCells ⟨g, s.length, none⟩ (byt [c])).run Tryd.prog w = .ok () (w.setCell ⟨g, s.length, none⟩ (.int .u8 (c : Nat))) := hst
      simp [Builtin.append_, run_underlying Tryd.underlying22, sizeOf, typeInfo, hi, Builtin.lenOf, hroom, hf, Addr.add_lit, hst', hz1]
    · intro _
      refine ⟨_, rfl, by simpa using hlt, fun j u hu => ?_⟩
      have hj : j < s.length + 1 := by
        rcases Nat.lt_or_ge j (s.length + 1) with h1 | h1
        · exact h1
        · rw [List.getElem?_eq_none (by rw [byt_len, List.length_append]; exact h1)] at hu; cases hu
      rw [Addr.add_mid, Nat.zero_add]
      rcases Nat.lt_or_ge j s.length with h1 | h1
      · rw [World.cell?_setCell_other _ _ _ _ (by simp <;> omega), hcell j h1, ← hu, byt_at (by rw [List.length_append]; omega)]
        congr 3
        rw [List.getD_eq_getElem?_getD, List.getD_eq_getElem?_getD, List.getElem?_append_left h1]
      · obtain rfl : j = s.length := by omega
        obtain ⟨u0, hu0⟩ := Option.isSome_iff_exists.1 hcn
        rw [World.cell?_setCell_same _ _ _ hu0, ← hu, byt_at (by rw [List.length_append]; omega)]
        congr 3
        rw [List.getD_eq_getElem?_getD, List.getElem?_append_right (Nat.le_refl _), Nat.sub_self]
        rfl
    · exact (Below.refl _ _).setCell hB _
  · have h1 := run_append_grow (P := Tryd.prog) w 22 ty 5 i0 _ Tryd.underlying22 hi hz0 ⟨g, 0, none⟩ s.length cap (byt s) (by rw [hz1, byt_len, Nat.mul_one]) (fun j v hv => by
        have hj : j < s.length := by
          rcases Nat.lt_or_ge j s.length with h1 | h1
          · exact h1
          · rw [List.getElem?_eq_none (by rw [byt_len]; exact h1)] at hv; cases hv
        rw [Addr.add_mid, Nat.zero_add, hcell j hj, ← hv, byt_at hj]) ad 1 ca (byt [c]) (by rw [hz1]; rfl) hc (by omega) (by omega) (growslice_fits (by omega) (by rw [hz2]; omega))
    refine ⟨_, _, h1, ⟨_, _, rfl, ?_⟩, ?_⟩
    · have hb := Blk.new w.drew 5 ((byt s).toArray ++ (byt [c]).toArray ++ Builtin.zeroCells (Value.int .u8 0).cells (grownCap w (s.length + 1) cap 5 - (s.length + 1)))
      exact (rd_blk hb (byt (s ++ [c])) (s.length + 1) (by
        rw [Array.toList_append, Array.toList_append, List.toList_toArray, List.toList_toArray, List.take_append_of_le_length (by simp [byt]), byt_app, List.take_of_length_le (by simp [byt])])).more hb.lt
    · exact (Below.refl _ _).drew.alloc (Nat.le_trans hB (Nat.le_of_lt hlt)) _
end Go.Proofs.YthlmlmkabjppeaaDoor
namespace Go.Proofs.YthlmlmkabjppeaaDoor
open Go.RowKit
set_option linter.unusedVariables false
section
variable {P : Program} {ops : Array Oper} {md : Region.Mode} {S : World → Prop} {Q : Exit → Act → World → Prop}
theorem plain_value {o : Oper} {b : Act} {w : World} {v : Value} (hp : plainOp o.op = true) (h : o.quietAt P b S w v) : (execOp b.eval o).run P w = .ok (.value v) w := by
  unfold Oper.quietAt at h
  have hne := plain_run (P := P) (ρ := b.eval) hp w
  have hnk : ∀ w', (execOp b.eval o).run P w ≠ .ok .skip w' := by
    obtain ⟨dst, op, type, pos, after, guard⟩ := o
    have key : ∀ {α : Type} (s : Sem α) (g : α → Value) (w' : World), ((do pure (.value (g (← s))) : Sem Next)).run P w ≠ .ok .skip w' := by
      intro α s g w'
      rw [Sem.run_bind]
      cases s.run P w with
      | ok u w1 => simp [Result.andThen]
      | halt x w1 => simp [Result.andThen]
    intro w'
    cases op <;> simp only [plainOp] at hp <;> (try cases hp)
    case move x => simp [execOp]
    case assign x => simp [execOp]
    case pick c x y => exact key (asBool (b.eval c)) (fun t => if t then b.eval x else b.eval y) w'
    all_goals exact key _ (fun t => t) w'
  generalize (execOp b.eval o).run P w = r at *
  cases r with
  | ok n w' =>
    cases n <;> simp only [Oper.quietUpon] at h
    case value u => rw [h.1, h.2]
    case skip => exact absurd rfl (hnk w')
    case enter f args => exact absurd rfl (hne w' f args)
  | halt x w' => simp only [Oper.quietUpon] at h
/-- what only looks, first -/
theorem anyH_quiet (i : Nat) {oi : Oper} {fuel : Nat} {listed : Array Bool} {a : Act} {w : World} (hi : ops[i]? = some oi) (hs : Region.noSelect ops = true) (hf : Region.free md ops listed i = true) (hr : (Region.ready md ops listed).contains i = true)
    (hQ : ∀ v c a w, Q (.panic c) (a.put oi.dst v) w → Q (.panic c) a w) (hw : Region.wanted oi (yielded ops a.tmps) = true) (hp : plainOp oi.op = true) (hS : S w)
    (h : ∀ K : Act → Prop, (∀ a', wpAnyH P md ops Q S fuel (listed.setIfInBounds i true) a' w → K a') → oi.quiet P a S K) : wpAnyH P md ops Q S (fuel + 1) listed a w := by
  obtain ⟨v, h1, h2⟩ := h _ (fun _ h => h)
  exact wpAnyH_take hi hs hf hr (hQ v) (.inl ⟨hw, fun w' hw' => plain_value hp (h1 w' hw')⟩) hS h2
/-- the only one that may come up -/
theorem anyH_op (i : Nat) {o : Oper} {fuel : Nat} {listed : Array Bool} {a : Act} {w : World} (hr : Region.ready md ops listed = [i]) (hi : ops[i]? = some o) (hw : Region.wanted o (yielded ops a.tmps) = true)
    (h : o.wp P a w (fun a' w' => S w' ∧ wpAnyH P md ops Q S fuel (listed.setIfInBounds i true) a' w') Q) : wpAnyH P md ops Q S (fuel + 1) listed a w := by
  refine wpAnyH_all hr (by simp) fun j hj => ?_
  obtain rfl := List.mem_singleton.1 hj
  unfold wpOp
  simp only [hi, hw, if_true]
  exact .inl h
/-- one of two -/
theorem anyH_two (i j : Nat) {o p : Oper} {fuel : Nat} {listed : Array Bool} {a : Act} {w : World} (hr : Region.ready md ops listed = [i, j]) (hi : ops[i]? = some o) (hj : ops[j]? = some p) (hw : Region.wanted o (yielded ops a.tmps) = true) (hv : Region.wanted p (yielded ops a.tmps) = true)
    (h : o.wp P a w (fun a' w' => S w' ∧ wpAnyH P md ops Q S fuel (listed.setIfInBounds i true) a' w') Q) (h' : p.wp P a w (fun a' w' => S w' ∧ wpAnyH P md ops Q S fuel (listed.setIfInBounds j true) a' w') Q) : wpAnyH P md ops Q S (fuel + 1) listed a w := by
  refine wpAnyH_all hr (by simp) fun k hk => ?_
  rcases List.mem_cons.1 hk with rfl | hk
  · unfold wpOp
    simp only [hi, hw, if_true]
    exact .inl h
  · obtain rfl := List.mem_singleton.1 hk
    unfold wpOp
    simp only [hj, hv, if_true]
    exact .inl h'
theorem wpList_valG {ops : Array Oper} {rest : List Oper} {o : Oper} {a : Act} {w : World} {Q : Exit → Act → World → Prop} (hw : Region.wanted o (yielded ops a.tmps) = true) (v : Value) (hr : (execOp a.eval o).run P w = .ok (.value v) w)
    (h : wpList P ops Q rest (a.put o.dst v) w) : wpList P ops Q (o :: rest) a w :=
  wpList_step fun K hK => by
    rw [if_pos hw]
    unfold Oper.wp
    rw [hr]
    exact hK _ _ h
theorem wpList_loadG {ops : Array Oper} {rest : List Oper} {o : Oper} {a : Act} {w : World} {Q : Exit → Act → World → Prop} (hw : Region.wanted o (yielded ops a.tmps) = true) (ty : TypeId) (x : Operand) (ho : o.op = .load ty x) (n off : Nat) (hx : a.eval x = .pointer (some ⟨n, off, none⟩)) (cs : List Value) (d : TypeDesc)
    (hc : w.rangeAt n off cs) (hu : P.underlying ty = some d) (hd : d.isRow = true) (hi : (P.info? ty).map (·.size) = some cs.length)
    (h : wpList P ops Q rest (a.put o.dst (.agg cs.toArray)) w) : wpList P ops Q (o :: rest) a w :=
  wpList_valG hw _ (by
    unfold execOp
    simp only [ho, hx, Instr.loadAt, Instr.sureAddr, Sem.run_bind, Sem.run_pure, Result.andThen_ok, run_loadVar_mid w n off ty cs d hc hu hd hi]) h
theorem wpList_valM {rest : List Oper} {o : Oper} {a : Act} {w : World} (hw : Region.wanted o (yielded ops a.tmps) = true) (v : Value) (w' : World) (hr : (execOp a.eval o).run P w = .ok (.value v) w')
    (h : wpList P ops Q rest (a.put o.dst v) w') : wpList P ops Q (o :: rest) a w :=
  wpList_step fun K hK => by
    rw [if_pos hw]
    unfold Oper.wp
    rw [hr]
    exact hK _ _ h
/-- an operation whose run is told -/
theorem op_value {o : Oper} {a : Act} {w w' : World} {v : Value} {K : Act → World → Prop} (hrun : (execOp a.eval o).run P w = .ok (.value v) w') (a' : Act) (ha : a.put o.dst v = a') (h : K a' w') : o.wp P a w K Q := by
  subst ha
  unfold Oper.wp
  rw [hrun]
  exact h
/-- a call -/
theorem op_call {o : Oper} {a : Act} {w : World} {f : FuncId} {args : Array Value} {K : Act → World → Prop} (hrun : (execOp a.eval o).run P w = .ok (.enter f args) w) (a' : Value → Act) (ha : ∀ v, a.put o.dst v = a' v) (hc : Calls P f args w fun e w' => ∃ v, e = .returned v ∧ K (a' v) w') : o.wp P a w K Q := by
  unfold Oper.wp
  rw [hrun]
  refine Calls.mono hc ?_
  rintro e w' ⟨v, rfl, h⟩
  show K (a.put o.dst v) w'
  rw [ha]
  exact h
end
end Go.Proofs.YthlmlmkabjppeaaDoor
namespace Go.Proofs.YthlmlmkabjppeaaDoor
open Go.RowKit
set_option linter.unusedVariables false
set_option linter.unusedSimpArgs false
def drvI (s : List Nat) (n : Nat) : List Nat := s ++ [0] ++ form n 8
/-- a key of a key -/
def drv (k s : List Nat) (n : Nat) : List Nat := expd k (drvI s n) 32
theorem drv_len (k s : List Nat) (n : Nat) : (drv k s n).length = 32 := expd_len _ _ _
theorem drv_lt (k s : List Nat) (n : Nat) : ∀ c ∈ drv k s n, c < 256 := expd_lt _ _ _
def zKey : Array Value := vb (List.replicate 32 0)
theorem zero_key (w : World) : (zeroValue 47).run Tryd.prog w = .ok (.agg zKey) w := by kernel_rfl
theorem run_one (w : World) (c : Nat) {o : Oper} {a : Act} (x : Operand) (ho : o.op = .buildSlice 22 1 #[(0, x)]) (hx : a.eval x = .int .u8 (c : Nat)) :
    (execOp a.eval o).run Tryd.prog w = .ok (.value (.slice (some ⟨w.heap.size, 0, none⟩) 1 1)) (w.alloc (.cells (byt [c]).toArray 5)) := by
  obtain ⟨i0, hi, hz0, hz1, hz2⟩ := info_parts byteInfo
  have e1 : (#[(0, x)].map fun (p : Nat × Operand) => (p.1, a.eval p.2)).toList = (([Value.int .u8 (c : Nat)].zipIdx 0).map fun x => (x.2, x.1)) := by
    simp [hx]
  have h1 := run_buildSlice (P := Tryd.prog) w 22 5 1 (#[(0, x)].map fun (p : Nat × Operand) => (p.1, a.eval p.2)) (byt [c]).toArray i0 _ Tryd.underlying22 hi hz0 (by rw [hz1]; decide) (by rw [hz1]; decide) (by
    rw [hz1]
    refine (congrArg _ e1).trans ?_
    exact (Great.fill_flat [Value.int .u8 (c : Nat)] _ (fun v hv => by rw [List.mem_singleton.1 hv]; rfl) (by simp)))
  unfold execOp
  simp only [ho, Sem.run_bind, h1, Result.andThen_ok]
  rfl
theorem op_convert {o : Oper} {a : Act} {w w' : World} {t1 t2 : TypeId} {x : Operand} {v u : Value} (ho : o.op = .convert t1 t2 x) (hx : a.eval x = v) (hrun : (convert t1 t2 v).run Tryd.prog w = .ok u w') : (execOp a.eval o).run Tryd.prog w = .ok (.value u) w' := by
  unfold execOp
  simp only [ho, hx, Sem.run_bind, hrun, Result.andThen_ok]
  rfl
theorem op_append {o : Oper} {a : Act} {w w' : World} {t : TypeId} {s x : Operand} {v u r : Value} (ho : o.op = .call { callee := .builtin .append, args := #[s, x], argTypes := #[t, t] }) (hs : a.eval s = v) (hx : a.eval x = u) (hrun : (Builtin.append_ #[t, t] o.type #[v, u]).run Tryd.prog w = .ok r w') : (execOp a.eval o).run Tryd.prog w = .ok (.value r) w' := by
  unfold execOp
  simp only [ho, resolve, invoke, builtin, Sem.run_bind, Sem.run_pure, Result.andThen_ok, List.map_toArray, List.map_cons, List.map_nil, hs, hx, hrun]
theorem rd_newB (w : World) (c : Nat) : Rd (w.alloc (.cells (byt [c]).toArray 5)) (w.heap.size + 1) (some ⟨w.heap.size, 0, none⟩) (byt [c]) := rd_one w _ _
theorem range_of_rd {w : World} {B g : Nat} {l : List Nat} (h : Rd w B (some ⟨g, 0, none⟩) (byt l)) (hne : l ≠ []) : w.rangeAt g 0 (byt l) := by
  obtain ⟨ad, e, hb, hc⟩ := h (by intro h0; have := congrArg List.length h0; rw [byt_len] at this; exact hne (List.eq_nil_of_length_eq_zero this))
  injection e with e
  subst e
  intro j u hu
  have := hc j u hu
  rwa [Addr.add_mid] at this
set_option maxRecDepth 100000 in
set_option maxHeartbeats 8000000 in
theorem derive_c (k s : List Nat) (n : Nat) (w : World) (hk : k.length = 32) (hkl : ∀ c ∈ k, c < 256) (hs : ∀ c ∈ s, c < 256) (hsn : s.length ≤ 1000) (hn : n < 2 ^ 64) (hR : RoundsAt w) :
    Calls Tryd.prog 30 #[.agg (vb k), .string (bstr s), .int .u64 n] w fun e w' => e = .returned (.agg (vb (drv k s n))) ∧ Below w.heap.size w w' := by
  have HK := Lib.hid hk
  have HKL := Lib.hid hkl
  have HS := Lib.hid hs
  have HRO := Lib.hid hR
  have HCV := Lib.hid (fun W => conv_str W s hs (by omega))
  clear hkl hs hR
  have zf := zero_key
  have zs1 : zKey.size = 32 := by rfl
  have zs2 : ¬ zKey = #[] := by intro h; have := congrArg Array.size h; rw [zs1] at this; cases this
  have ksz : (vb k).size = 32 := by rw [vb_size, hk]
  generalize bstr s = SV at *
  go_enter Tryd.func30, Tryd.ntmps30
  go_upto_region 1 with fail
  obtain ⟨Z, hZ⟩ : ∃ Z, Z = (w.alloc (Obj.cells (vb k) 47)).alloc (Obj.cells zKey 47) := ⟨_, rfl⟩
  have HZ := Lib.hid (show Below w.heap.size w Z by rw [hZ]; exact ((Below.refl _ _).alloc (Nat.le_refl _) _).alloc (by simp) _)
  have H3 := Lib.hid (show Blk Z w.heap.size 47 (vb k) by rw [hZ]; exact (Blk.new w _ _).alloc _)
  have H6 := Lib.hid (show Blk Z (w.heap.size + 1) 47 zKey by
    have h1 := Blk.new (w.alloc (Obj.cells (vb k) 47)) 47 zKey
    rw [show (w.alloc (Obj.cells (vb k) 47)).heap.size = w.heap.size + 1 by simp] at h1
    rw [hZ]; exact h1)
  rw [← hZ]
  clear hZ zf zs1 zs2 ksz
  have hdr : ∃ x : Ext Z, Z.drew = x.wd := Ext.of (Below.refl _ _).drew
  refine wp_region_held (S := fun w' => ∃ x : Ext Z, w' = x.wd) (by kernel_rfl) ?_
  show wpAnyH _ _ _ _ _ 13 _ _ Z.drew
  refine anyH_quiet 0 rfl (by kernel_rfl) (by kernel_rfl) (by kernel_rfl) (fun _ _ _ _ h => h) rfl rfl hdr ?_
  intro K hK
  conv => arg 2; whnf
  go_big_quiet_op
  go_big_quiet_on
  refine anyH_quiet 1 rfl (by kernel_rfl) (by kernel_rfl) (by kernel_rfl) (fun _ _ _ _ h => h) rfl rfl hdr ?_
  intro K hK
  conv => arg 2; whnf
  go_big_quiet_op
  go_big_quiet_on
  refine anyH_quiet 5 rfl (by kernel_rfl) (by kernel_rfl) (by kernel_rfl) (fun _ _ _ _ h => h) rfl rfl hdr ?_
  intro K hK
  conv => arg 2; whnf
  go_big_quiet_op
  go_big_quiet_on
  refine anyH_two 2 3 (by kernel_rfl) rfl rfl rfl rfl ?_ ?_
  · obtain ⟨cap, W1, hrun, hmk, hb1⟩ := HCV.out Z.drew
    refine op_value (op_convert rfl rfl hrun) _ (by conv => lhs; arg 2; whnf) ⟨Ext.of ((Below.refl Z.heap.size Z).drew.trans hb1), ?_⟩
    refine anyH_op 3 (by kernel_rfl) rfl rfl ?_
    have hz1 : Below Z.heap.size Z W1 := (Below.refl Z.heap.size Z).drew.trans hb1
    have hz2 : Below Z.heap.size Z (W1.alloc (Obj.cells (byt [0]).toArray 5)) := hz1.alloc hz1.size _
    refine op_value (run_one W1 0 _ rfl rfl) _ (by conv => lhs; arg 2; whnf) ⟨Ext.of hz2, ?_⟩
    obtain ⟨v3, W3, hrun3, ⟨A3, c3, rfl, hr3⟩, hb3'⟩ := app_mark (W1.alloc (Obj.cells (byt [0]).toArray 5)) Z.drew.heap.size cap Z.heap.size s 0 22 (some ⟨W1.heap.size, 0, none⟩) 1 (W1.heap.size + 1) (hmk.next ((Below.refl _ _).alloc (Nat.le_refl _) _)) (Nat.le_refl _) (by omega) (rd_newB W1 0)
    have hb3 : Below Z.heap.size Z W3 := hz2.trans hb3'
    have hr3 : Rd W3 W3.heap.size A3 (byt (s ++ [0])) := hr3
    clear hmk hb1 hz1 hz2 hb3'
    refine anyH_op 4 (by kernel_rfl) rfl rfl ?_
    refine op_value (op_append rfl rfl rfl hrun3) _ (by conv => lhs; arg 2; whnf) ⟨Ext.of hb3, ?_⟩
    refine anyH_op 6 (by kernel_rfl) rfl rfl ?_
    have hput := put_c W3.heap.size A3 c3 (s ++ [0]) n 8 W3 hr3 hn (by decide) (by decide) (by rw [List.length_append]; simp; omega)
    rw [show (s ++ ([0] : List Nat)).length = s.length + 1 by simp, show tailOf n 8 = form n 8 from rfl] at hput
    refine op_call (by kernel_rfl) _ (fun v => by conv => lhs; arg 2; whnf) (hput.mono ?_)
    rintro e W4 ⟨v4, rfl, ho4, hb4⟩
    obtain ⟨A4, c4, rfl, _, _, hr4⟩ := ho4.rd
    have hw4 : Below Z.heap.size Z W4 := hb3.trans (hb4.mono hb3.size)
    refine ⟨_, rfl, Ext.of hw4, ?_⟩
    refine anyH_op 7 (by kernel_rfl) rfl rfl ?_
    have hzw : Below w.heap.size w W4 := HZ.out.trans (hw4.mono HZ.out.size)
    have hdl : (s ++ [0] ++ form n 8).length = s.length + 9 := by simp [form_len]
    have hexp := expand2_c (w.heap.size + 1) W4.heap.size (some ⟨w.heap.size, 0, none⟩) A4 32 c4 k (s ++ [0] ++ form n 8) 32 W4 (rd_blk (H3.out.below hw4 H3.out.lt) (byt k) 32 (by show byt k = ((byt k).toArray.toList).take 32; rw [List.toList_toArray, List.take_of_length_le (by rw [byt_len, HK.out]; decide)])) hr4 (by have := H3.out.lt; have := hw4.size; omega) (Nat.le_refl _) HKL.out (fun c hc => by
        rcases List.mem_append.1 hc with h | h
        · rcases List.mem_append.1 h with h | h
          · exact HS.out c h
          · rw [List.mem_singleton.1 h]; decide
        · exact form_lt _ _ c h) (by rw [HK.out]; decide) (by rw [hdl]; omega) (by decide) (HRO.out.next hzw)
    rw [HK.out] at hexp
    refine op_call (by kernel_rfl) _ (fun v => by conv => lhs; arg 2; whnf) (hexp.mono ?_)
    rintro e W5 ⟨A5, rfl, hr5, hb5, hA5⟩
    obtain ⟨g5, rfl⟩ := hA5 (by decide)
    have HR5 := Lib.hid hr5
    have HW5 := Lib.hid (show Below Z.heap.size Z W5 from hw4.trans (hb5.mono hw4.size))
    clear hr5 hA5 hb5 hzw hdl hr4 ho4 hb4 hw4 hput hb3 hr3
    refine ⟨_, rfl, Ext.of HW5.out, ?_⟩
    simp only [Act.put, List.setIfInBounds_toArray, List.set_cons_succ, List.set_cons_zero]
    refine anyH_quiet 8 rfl (by kernel_rfl) (by kernel_rfl) (by kernel_rfl) (fun _ _ _ _ h => h) rfl rfl (Ext.of HW5.out) ?_
    intro K hK
    conv => arg 2; whnf
    go_big_quiet_op
    go_big_quiet_on
    refine anyH_quiet 9 rfl (by kernel_rfl) (by kernel_rfl) (by kernel_rfl) (fun _ _ _ _ h => h) rfl rfl (Ext.of HW5.out) ?_
    intro K hK
    conv => arg 2; whnf
    go_big_quiet_op
    go_big_quiet_on
    refine anyH_quiet 10 rfl (by kernel_rfl) (by kernel_rfl) (by kernel_rfl) (fun _ _ _ _ h => h) rfl rfl (Ext.of HW5.out) ?_
    intro K hK
    conv => arg 2; whnf
    go_big_quiet_op
    go_big_quiet_on
    refine anyH_quiet 11 rfl (by kernel_rfl) (by kernel_rfl) (by kernel_rfl) (fun _ _ _ _ h => h) rfl rfl (Ext.of HW5.out) ?_
    intro K hK
    conv => arg 2; whnf
    go_big_quiet_op
    go_big_quiet_on
    refine anyH_quiet 12 rfl (by kernel_rfl) (by kernel_rfl) (by kernel_rfl) (fun _ _ _ _ h => h) rfl rfl (Ext.of HW5.out) ?_
    intro K hK
    conv => arg 2; whnf
    go_big_quiet_op
    go_big_quiet_on
    refine wpAnyH_done (by kernel_rfl) ?_ _
    have H65 := Lib.hid (H6.out.below HW5.out H6.out.lt)
    have HBW := Lib.hid (HZ.out.trans (HW5.out.mono HZ.out.size))
    have HRG := Lib.hid (range_of_rd HR5.out (by intro h0; have := congrArg List.length h0; rw [show (expd k (s ++ [0] ++ form n 8) 32).length = 32 from expd_len _ _ _] at this; cases this))
    have HDV : Hid (drv k s n = expd k (s ++ [0] ++ form n 8) 32) := Lib.hid rfl
    rw [← HDV.out] at HRG
    have HDL := Lib.hid (drv_len k s n)
    have HSZ := Lib.hid (show (Tryd.prog.info? 47).map (·.size) = some (vb (drv k s n)).size by rw [vb_size, HDL.out]; kernel_rfl)
    clear HDV HR5 HCV
    obtain ⟨DV, hDV⟩ : ∃ DV, DV = drv k s n := ⟨_, rfl⟩
    rw [← hDV] at HRG HDL HSZ
    have HDVV := Lib.hid hDV
    clear hDV
    have hAA := fun W => run_arrayAt (P := Tryd.prog) (w := W) 47 5 32 (some ⟨g5, 0, none⟩) 32 32 Tryd.underlying47 (Nat.le_refl _)
    have HSL := Lib.hid (show (Tryd.prog.info? 47).map (·.size) = some (byt DV).length by rw [byt_len, HDL.out]; kernel_rfl)
    go_wp2_with (first
      | (refine wpList_loadG rfl 47 (.tmp 21) rfl g5 0 rfl (byt DV) _ HRG.out Tryd.underlying47 rfl HSL.out ?_)
      | (refine wpList_store_rowTo rfl 47 (.tmp 6) (.tmp 22) rfl rfl (w.heap.size + 1) (vb DV) rfl rfl 47 zKey H65.out HSZ.out (by rw [vb_size, HDL.out]; rfl) (vb_one _) ?_))
    first
      | rw [Exit.noGoto_ret]
      | skip
    refine bodyPost_ret (results_cell_row rfl _ _ (w.heap.size + 1) 47 (vb DV) (0, 0) _ rfl (setRow_heap _ _ zKey _ 47 (0, 0) H65.out) Tryd.underlying47 rfl HSZ.out) rfl ?_
    exact ⟨by rw [HDVV.out], below_row HBW.out (by omega) _⟩
  · have hz1 : Below Z.heap.size Z (Z.drew.alloc (Obj.cells (byt [0]).toArray 5)) := (Below.refl Z.heap.size Z).drew.alloc (Nat.le_refl _) _
    refine op_value (run_one Z.drew 0 _ rfl rfl) _ (by conv => lhs; arg 2; whnf) ⟨Ext.of hz1, ?_⟩
    refine anyH_op 2 (by kernel_rfl) rfl rfl ?_
    obtain ⟨cap, W2, hrun, hmk, hb2⟩ := HCV.out (Z.drew.alloc (Obj.cells (byt [0]).toArray 5))
    have hz2 : Below Z.heap.size Z W2 := hz1.trans (hb2.mono hz1.size)
    refine op_value (op_convert rfl rfl hrun) _ (by conv => lhs; arg 2; whnf) ⟨Ext.of hz2, ?_⟩
    obtain ⟨v3, W3, hrun3, ⟨A3, c3, rfl, hr3⟩, hb3'⟩ := app_mark W2 (Z.drew.alloc (Obj.cells (byt [0]).toArray 5)).heap.size cap Z.heap.size s 0 22 (some ⟨Z.drew.heap.size, 0, none⟩) 1 (Z.drew.heap.size + 1) hmk (by have := hz1.size; omega) (by omega) ((rd_newB Z.drew 0).ext hb2)
    have hb3 : Below Z.heap.size Z W3 := hz2.trans hb3'
    have hr3 : Rd W3 W3.heap.size A3 (byt (s ++ [0])) := hr3
    clear hmk hb2 hz1 hz2 hb3'
    refine anyH_op 4 (by kernel_rfl) rfl rfl ?_
    refine op_value (op_append rfl rfl rfl hrun3) _ (by conv => lhs; arg 2; whnf) ⟨Ext.of hb3, ?_⟩
    refine anyH_op 6 (by kernel_rfl) rfl rfl ?_
    have hput := put_c W3.heap.size A3 c3 (s ++ [0]) n 8 W3 hr3 hn (by decide) (by decide) (by rw [List.length_append]; simp; omega)
    rw [show (s ++ ([0] : List Nat)).length = s.length + 1 by simp, show tailOf n 8 = form n 8 from rfl] at hput
    refine op_call (by kernel_rfl) _ (fun v => by conv => lhs; arg 2; whnf) (hput.mono ?_)
    rintro e W4 ⟨v4, rfl, ho4, hb4⟩
    obtain ⟨A4, c4, rfl, _, _, hr4⟩ := ho4.rd
    have hw4 : Below Z.heap.size Z W4 := hb3.trans (hb4.mono hb3.size)
    refine ⟨_, rfl, Ext.of hw4, ?_⟩
    refine anyH_op 7 (by kernel_rfl) rfl rfl ?_
    have hzw : Below w.heap.size w W4 := HZ.out.trans (hw4.mono HZ.out.size)
    have hdl : (s ++ [0] ++ form n 8).length = s.length + 9 := by simp [form_len]
    have hexp := expand2_c (w.heap.size + 1) W4.heap.size (some ⟨w.heap.size, 0, none⟩) A4 32 c4 k (s ++ [0] ++ form n 8) 32 W4 (rd_blk (H3.out.below hw4 H3.out.lt) (byt k) 32 (by show byt k = ((byt k).toArray.toList).take 32; rw [List.toList_toArray, List.take_of_length_le (by rw [byt_len, HK.out]; decide)])) hr4 (by have := H3.out.lt; have := hw4.size; omega) (Nat.le_refl _) HKL.out (fun c hc => by
        rcases List.mem_append.1 hc with h | h
        · rcases List.mem_append.1 h with h | h
          · exact HS.out c h
          · rw [List.mem_singleton.1 h]; decide
        · exact form_lt _ _ c h) (by rw [HK.out]; decide) (by rw [hdl]; omega) (by decide) (HRO.out.next hzw)
    rw [HK.out] at hexp
    refine op_call (by kernel_rfl) _ (fun v => by conv => lhs; arg 2; whnf) (hexp.mono ?_)
    rintro e W5 ⟨A5, rfl, hr5, hb5, hA5⟩
    obtain ⟨g5, rfl⟩ := hA5 (by decide)
    have HR5 := Lib.hid hr5
    have HW5 := Lib.hid (show Below Z.heap.size Z W5 from hw4.trans (hb5.mono hw4.size))
    clear hr5 hA5 hb5 hzw hdl hr4 ho4 hb4 hw4 hput hb3 hr3
    refine ⟨_, rfl, Ext.of HW5.out, ?_⟩
    simp only [Act.put, List.setIfInBounds_toArray, List.set_cons_succ, List.set_cons_zero]
    refine anyH_quiet 8 rfl (by kernel_rfl) (by kernel_rfl) (by kernel_rfl) (fun _ _ _ _ h => h) rfl rfl (Ext.of HW5.out) ?_
    intro K hK
    conv => arg 2; whnf
    go_big_quiet_op
    go_big_quiet_on
    refine anyH_quiet 9 rfl (by kernel_rfl) (by kernel_rfl) (by kernel_rfl) (fun _ _ _ _ h => h) rfl rfl (Ext.of HW5.out) ?_
    intro K hK
    conv => arg 2; whnf
    go_big_quiet_op
    go_big_quiet_on
    refine anyH_quiet 10 rfl (by kernel_rfl) (by kernel_rfl) (by kernel_rfl) (fun _ _ _ _ h => h) rfl rfl (Ext.of HW5.out) ?_
    intro K hK
    conv => arg 2; whnf
    go_big_quiet_op
    go_big_quiet_on
    refine anyH_quiet 11 rfl (by kernel_rfl) (by kernel_rfl) (by kernel_rfl) (fun _ _ _ _ h => h) rfl rfl (Ext.of HW5.out) ?_
    intro K hK
    conv => arg 2; whnf
    go_big_quiet_op
    go_big_quiet_on
    refine anyH_quiet 12 rfl (by kernel_rfl) (by kernel_rfl) (by kernel_rfl) (fun _ _ _ _ h => h) rfl rfl (Ext.of HW5.out) ?_
    intro K hK
    conv => arg 2; whnf
    go_big_quiet_op
    go_big_quiet_on
    refine wpAnyH_done (by kernel_rfl) ?_ _
    have H65 := Lib.hid (H6.out.below HW5.out H6.out.lt)
    have HBW := Lib.hid (HZ.out.trans (HW5.out.mono HZ.out.size))
    have HRG := Lib.hid (range_of_rd HR5.out (by intro h0; have := congrArg List.length h0; rw [show (expd k (s ++ [0] ++ form n 8) 32).length = 32 from expd_len _ _ _] at this; cases this))
    have HDV : Hid (drv k s n = expd k (s ++ [0] ++ form n 8) 32) := Lib.hid rfl
    rw [← HDV.out] at HRG
    have HDL := Lib.hid (drv_len k s n)
    have HSZ := Lib.hid (show (Tryd.prog.info? 47).map (·.size) = some (vb (drv k s n)).size by rw [vb_size, HDL.out]; kernel_rfl)
    clear HDV HR5 HCV
    obtain ⟨DV, hDV⟩ : ∃ DV, DV = drv k s n := ⟨_, rfl⟩
    rw [← hDV] at HRG HDL HSZ
    have HDVV := Lib.hid hDV
    clear hDV
    have hAA := fun W => run_arrayAt (P := Tryd.prog) (w := W) 47 5 32 (some ⟨g5, 0, none⟩) 32 32 Tryd.underlying47 (Nat.le_refl _)
    have HSL := Lib.hid (show (Tryd.prog.info? 47).map (·.size) = some (byt DV).length by rw [byt_len, HDL.out]; kernel_rfl)
    go_wp2_with (first
      | (refine wpList_loadG rfl 47 (.tmp 21) rfl g5 0 rfl (byt DV) _ HRG.out Tryd.underlying47 rfl HSL.out ?_)
      | (refine wpList_store_rowTo rfl 47 (.tmp 6) (.tmp 22) rfl rfl (w.heap.size + 1) (vb DV) rfl rfl 47 zKey H65.out HSZ.out (by rw [vb_size, HDL.out]; rfl) (vb_one _) ?_))
    first
      | rw [Exit.noGoto_ret]
      | skip
    refine bodyPost_ret (results_cell_row rfl _ _ (w.heap.size + 1) 47 (vb DV) (0, 0) _ rfl (setRow_heap _ _ zKey _ 47 (0, 0) H65.out) Tryd.underlying47 rfl HSZ.out) rfl ?_
    exact ⟨by rw [HDVV.out], below_row HBW.out (by omega) _⟩
end Go.Proofs.YthlmlmkabjppeaaDoor
namespace Go.Proofs.YthlmlmkabjppeaaDoor
open Go.RowKit
set_option linter.unusedVariables false
set_option linter.unusedSimpArgs false
theorem setCells_row (g : Nat) (t : TypeId) (fr : Nat × Nat) : ∀ (vs : List Value) (o : Nat) (w : World) (cur : Array Value), w.heap[g]? = some (.cells cur t fr) → o + vs.length ≤ cur.size →
    ∃ cur', (w.setCells g o vs).heap[g]? = some (.cells cur' t fr) ∧ cur'.size = cur.size ∧ (∀ j, j < o → cur'[j]? = cur[j]?) ∧ ∀ j, j < vs.length → cur'[o + j]? = vs[j]?
  | [], o, w, cur, hg, _ => ⟨cur, hg, rfl, fun _ _ => rfl, fun j hj => by cases hj⟩
  | v :: r, o, w, cur, hg, hl => by
    simp only [List.length_cons] at hl
    have h1 : (w.setCell ⟨g, o, none⟩ v).heap[g]? = some (.cells (cur.setIfInBounds o v) t fr) := by
      rw [setCell_eq_setRow w g o cur t fr v hg]
      exact setRow_heap w g _ _ t _ hg
    obtain ⟨cur', a, b, c, d⟩ := setCells_row g t fr r (o + 1) (w.setCell ⟨g, o, none⟩ v) (cur.setIfInBounds o v) h1 (by rw [Array.size_setIfInBounds]; omega)
    refine ⟨cur', a, by rw [b, Array.size_setIfInBounds], fun j hj => ?_, fun j hj => ?_⟩
    · rw [c j (by omega), Array.getElem?_setIfInBounds_ne (by omega)]
    · cases j with
      | zero =>
        rw [Nat.add_zero, c o (by omega), Array.getElem?_setIfInBounds_self_of_lt (by omega)]
        rfl
      | succ j =>
        have := d j (by simp only [List.length_cons] at hj; omega)
        rw [show o + (j + 1) = o + 1 + j by omega, this]
        rfl
theorem below_setCells (B g : Nat) (hB : B ≤ g) : ∀ (vs : List Value) (o : Nat) (a w : World), Below B a w → Below B a (w.setCells g o vs)
  | [], _, _, _, h => h
  | v :: r, o, a, w, h => below_setCells B g hB r (o + 1) a _ (h.setCell hB v)
theorem only_below {S : Nat → Prop} {w w' : World} (h : Below w.heap.size w w') : Only S w w' := ⟨h.os, h.tape, h.output, h.size, fun k hk _ => h.block k hk⟩
theorem only_setCells (g : Nat) : ∀ (vs : List Value) (o : Nat) (a w : World), Only (fun k => g = k) a w → Only (fun k => g = k) a (w.setCells g o vs)
  | [], _, _, _, h => h
  | v :: r, o, a, w, h => by
    refine only_setCells g r (o + 1) a _ ⟨h.os, h.tape, h.output, by simpa [World.setCell] using h.size, fun k hk hne => ?_⟩
    rw [← h.block k hk hne]
    exact Below.heap_setCell _ _ _ _ (fun e => hne e.symm)
/-- bytes of a text's row, or of the call's own -/
def MarkOwn (w : World) (B : Nat) (v : Value) (l : List Nat) : Prop := (∃ g cap, v = .slice (some ⟨g, 0, none⟩) l.length cap ∧ B ≤ g ∧ MarkAt w g cap l) ∨ OwnB w B v l
theorem MarkOwn.next {w w' : World} {B : Nat} {v : Value} {l : List Nat} (h : MarkOwn w B v l) (hb : Below w.heap.size w w') : MarkOwn w' B v l := by
  rcases h with ⟨g, cap, e, hB, h⟩ | h
  · exact .inl ⟨g, cap, e, hB, h.next hb⟩
  · exact .inr (h.next hb)
theorem MarkOwn.rd {w : World} {B : Nat} {v : Value} {l : List Nat} (h : MarkOwn w B v l) : ∃ A cap, v = .slice A l.length cap ∧ Rd w w.heap.size A (byt l) := by
  rcases h with ⟨g, cap, rfl, hB, cur, hg, hcs, hle, hmx, hcur⟩ | h
  · have hlt : g < w.heap.size := (Array.getElem?_eq_some_iff.1 hg).1
    refine ⟨_, _, rfl, fun _ => ⟨_, rfl, hlt, fun j u hu => ?_⟩⟩
    have hj : j < l.length := by
      rcases Nat.lt_or_ge j l.length with h1 | h1
      · exact h1
      · rw [List.getElem?_eq_none (by rw [byt_len]; exact h1)] at hu; cases hu
    rw [Addr.add_mid, Nat.zero_add]
    simp only [World.cell?, hg]
    rw [hcur j hj, ← hu, byt_at hj]
    rfl
  · obtain ⟨A, cap, e, _, _, hr⟩ := h.rd
    exact ⟨A, cap, e, hr⟩
theorem MarkOwn.lt {w : World} {B : Nat} {v : Value} {l : List Nat} (h : MarkOwn w B v l) : ∀ g, v.ownBlock = some g → g < w.heap.size := by
  rcases h with ⟨g, cap, rfl, hB, cur, hg, _⟩ | h
  · intro g' hg'
    injection hg' with hg'
    subst hg'
    exact (Array.getElem?_eq_some_iff.1 hg).1
  · exact own_lt h
theorem app_marks (w : World) (B : Nat) (v : Value) (s m : List Nat) (ty : TypeId) (A : Option Addr) (ca : Nat) (Bs : Nat) (hm : MarkOwn w B v s) (hBw : B ≤ w.heap.size) (hs : s.length ≤ 10000) (hmn : m.length ≤ 10000) (hne : m ≠ []) (hr : Rd w Bs A (byt m)) :
    ∃ v' w', (Builtin.append_ #[22, 22] ty #[v, .slice A m.length ca]).run Tryd.prog w = .ok v' w' ∧ MarkOwn w' B v' (s ++ m) ∧ Below B w w' ∧ Only (fun k => v.ownBlock = some k) w w' := by
  obtain ⟨i0, hi, hz0, hz1, hz2⟩ := info_parts byteInfo
  rcases hm with ⟨g, cap, rfl, hB, hm⟩ | ho
  · obtain ⟨ad, rfl, _, hc⟩ := hr (by intro h0; have := congrArg List.length h0; rw [byt_len] at this; exact hne (List.eq_nil_of_length_eq_zero this))
    obtain ⟨cur, hg, hcs, hle, hmx, hcur⟩ := hm
    have hlt : g < w.heap.size := (Array.getElem?_eq_some_iff.1 hg).1
    have hcell : ∀ j, j < s.length → w.cell? ⟨g, j, none⟩ = some (.int .u8 (s.getD j 0 : Nat)) := fun j hj => by
      simp only [World.cell?, hg]
      exact hcur j hj
    by_cases hroom : s.length + m.length ≤ cap
    · have hf := run_firstCells_some (P := Tryd.prog) w i0.size m.length ad m.length ca (byt m) (by rw [hz1, byt_len, Nat.mul_one]) hc
      have hst := run_storeCells_cells (P := Tryd.prog) g s.length (byt m) 0 w (fun j hj => by
        rw [byt_len] at hj
        simp only [World.cell?, hg, Nat.add_zero]
        rw [Array.getElem?_eq_getElem (by omega)]
        rfl) (fun j hj => by
        rw [byt_len] at hj
        simp [World.frozen?, hg]
        omega) (byt_one m)
      rw [Nat.add_zero] at hst
      rw [hz1] at hf
      obtain ⟨cur', ha, hb, hcc, hd⟩ := setCells_row g 5 _ (byt m) s.length w cur hg (by rw [byt_len]; omega)
      refine ⟨.slice (some ⟨g, 0, none⟩) (s.length + m.length) cap, w.setCells g s.length (byt m), ?_, .inl ⟨g, cap, by rw [List.length_append], hB, cur', by rw [ha, hb], by rw [hb, hcs], by rw [List.length_append]; exact hroom, hmx, fun j hj => ?_⟩, below_setCells B g hB _ _ _ _ (Below.refl _ _), ?_⟩
      · simp [Builtin.append_, run_underlying Tryd.underlying22, sizeOf, typeInfo, hi, Builtin.lenOf, hroom, hf, Addr.add_lit, hst, hz1]
      · rw [List.length_append] at hj
        rcases Nat.lt_or_ge j s.length with h1 | h1
        · rw [hcc j h1, hcur j h1]
          congr 3
          rw [List.getD_eq_getElem?_getD, List.getD_eq_getElem?_getD, List.getElem?_append_left h1]
        · obtain ⟨i, rfl⟩ : ∃ i, j = s.length + i := ⟨j - s.length, by omega⟩
          rw [hd i (by rw [byt_len]; omega), byt_at (by omega)]
          congr 3
          rw [List.getD_eq_getElem?_getD, List.getD_eq_getElem?_getD, List.getElem?_append_right (by omega), Nat.add_sub_cancel_left]
      · have h1 := only_setCells g (byt m) s.length w w ⟨rfl, rfl, rfl, Nat.le_refl _, fun _ _ _ => rfl⟩
        exact ⟨h1.os, h1.tape, h1.output, h1.size, fun k hk hne => h1.block k hk (fun e => hne (by rw [← e]; rfl))⟩
    · have h1 := run_append_grow (P := Tryd.prog) w 22 ty 5 i0 _ Tryd.underlying22 hi hz0 ⟨g, 0, none⟩ s.length cap (byt s) (by rw [hz1, byt_len, Nat.mul_one]) (fun j v hv => by
          have hj : j < s.length := by
            rcases Nat.lt_or_ge j s.length with h1 | h1
            · exact h1
            · rw [List.getElem?_eq_none (by rw [byt_len]; exact h1)] at hv; cases hv
          rw [Addr.add_mid, Nat.zero_add, hcell j hj, ← hv, byt_at hj]) ad m.length ca (byt m) (by rw [hz1, byt_len, Nat.mul_one]) hc (by omega) (by omega) (growslice_fits (by omega) (by rw [hz2]; omega))
      have hge := grownCap_ge w (s.length + m.length) cap 5
      have hgm := grownCap_le_maxLen w (s.length + m.length) cap 5 (by simp [maxLen]; omega)
      refine ⟨_, _, h1, .inr ⟨by rw [byt_len, Nat.mul_one], .inr ⟨w.heap.size, grownCap w (s.length + m.length) cap 5, _, by rw [List.length_append], hBw, (Blk.new w.drew 5 _), by rw [List.length_append]; exact hge, hgm, ?_, ?_⟩⟩, (Below.refl _ _).drew.alloc (Nat.le_trans hB (Nat.le_of_lt hlt)) _, ?_⟩
      · rw [Array.size_append, Array.size_append, List.size_toArray, List.size_toArray, byt_len, byt_len]
        simp [Builtin.zeroCells, Value.cells]
        omega
      · rw [Nat.mul_one, Array.toList_append, Array.toList_append, List.toList_toArray, List.toList_toArray, List.length_append, List.take_append_of_le_length (by simp [byt]), byt_app, List.take_of_length_le (by simp [byt])]
      · exact only_below ((Below.refl _ _).drew.alloc (Nat.le_refl _) _)
  · obtain ⟨v', w', hrun, hap⟩ := run_app (P := Tryd.prog) w B 22 ty 5 i0 (.int .u8 0) 1 1 Tryd.underlying22 hi hz0 hz1 hz2 rfl (by decide) v s.length (byt s) ho Bs A m.length ca (byt m) (by rw [byt_len, Nat.mul_one]) hr (byt_one m) (by omega) (by omega) hBw
    exact ⟨v', w', hrun, .inr (OwnB.app hap), hap.below ho hBw, hap.only (fun g h => h)⟩
end Go.Proofs.YthlmlmkabjppeaaDoor
namespace Go.Proofs.YthlmlmkabjppeaaDoor
open Go.RowKit
set_option linter.unusedVariables false
set_option linter.unusedSimpArgs false
theorem zero_k32 (w : World) : (zeroValue 25).run Tryd.prog w = .ok (.agg zKey) w := by kernel_rfl
structure CpS (w W : World) (g9 g6 : Nat) (L : List Nat) (k : Nat) : Prop where
  bel : Below w.heap.size w W
  h9 : Blk W g9 25 (vb (outZ L k))
  h6 : Blk W g6 25 zKey
set_option maxRecDepth 100000 in
set_option maxHeartbeats 8000000 in
theorem rderive_c (k s : List Nat) (n : Nat) (w : World) (hk : k.length = 32) (hkl : ∀ c ∈ k, c < 256) (hs : ∀ c ∈ s, c < 256) (hsn : s.length ≤ 1000) (hn : n < 2 ^ 64) :
    Calls Tryd.prog 31 #[.agg (vb k), .string (bstr s), .int .u64 n] w fun e w' => e = .returned (.agg (vb (drv k s n))) ∧ Below w.heap.size w w' := by
  obtain ⟨i0, hi, hz0, hz1, hz2⟩ := info_parts byteInfo
  have HK := Lib.hid hk
  have HKL := Lib.hid hkl
  have HS := Lib.hid hs
  have HCV := Lib.hid (fun W => conv_str W s hs (by omega))
  clear hkl hs
  have zf := zero_k32
  have zs1 : zKey.size = 32 := by rfl
  have zs2 : ¬ zKey = #[] := by intro h; have := congrArg Array.size h; rw [zs1] at this; cases this
  have ksz : (vb k).size = 32 := by rw [vb_size, hk]
  generalize bstr s = SV at *
  go_enter Tryd.func31, Tryd.ntmps31
  go_upto_region 1 with fail
  obtain ⟨Z, hZ⟩ : ∃ Z, Z = (w.alloc (Obj.cells (vb k) 25)).alloc (Obj.cells zKey 25) := ⟨_, rfl⟩
  have HZ := Lib.hid (show Below w.heap.size w Z by rw [hZ]; exact ((Below.refl _ _).alloc (Nat.le_refl _) _).alloc (by simp) _)
  have H3 := Lib.hid (show Blk Z w.heap.size 25 (vb k) by rw [hZ]; exact (Blk.new w _ _).alloc _)
  have H6 := Lib.hid (show Blk Z (w.heap.size + 1) 25 zKey by
    have h1 := Blk.new (w.alloc (Obj.cells (vb k) 25)) 25 zKey
    rw [show (w.alloc (Obj.cells (vb k) 25)).heap.size = w.heap.size + 1 by simp] at h1
    rw [hZ]; exact h1)
  rw [← hZ]
  clear hZ ksz
  obtain ⟨cap, W1, hrun, hmk, hb1⟩ := HCV.out Z
  have hz1' : Below Z.heap.size Z (W1.alloc (Obj.cells (byt [0]).toArray 5)) := hb1.alloc hb1.size _
  obtain ⟨v3, W3, hrun3', hm3, hb3', _⟩ := app_marks (W1.alloc (Obj.cells (byt [0]).toArray 5)) Z.heap.size (.slice (some ⟨Z.heap.size, 0, none⟩) s.length cap) s [0] 22 (some ⟨W1.heap.size, 0, none⟩) 1 (W1.heap.size + 1) (.inl ⟨_, _, rfl, Nat.le_refl _, hmk.next ((Below.refl _ _).alloc (Nat.le_refl _) _)⟩) hz1'.size (by omega) (by decide) (by simp) (rd_newB W1 0)
  have hrun3 : (Builtin.append_ #[22, 22] 22 #[.slice (some ⟨Z.heap.size, 0, none⟩) s.length cap, .slice (some ⟨W1.heap.size, 0, none⟩) 1 1]).run Tryd.prog (W1.alloc (Obj.cells #[Value.int .u8 0] 5)) = .ok v3 W3 := hrun3'
  have HM3 := Lib.hid hm3
  have HB3 := Lib.hid (hz1'.trans hb3')
  obtain ⟨A3, c3, rfl, hr3⟩ := hm3.rd
  clear hrun3' hm3 hb3' hz1' hmk hb1 hr3
  have hl1 : (s ++ ([0] : List Nat)).length = s.length + 1 := by simp
  rw [hl1] at hrun3 HM3
  clear hl1
  have HR3 := Lib.hid hrun3
  clear hrun3
  go_upto_region 2 with (at_builtin; refine wpList_valM rfl (.slice A3 (s.length + 1) c3) W3 (op_append rfl rfl rfl HR3.out) ?_)
  clear hrun HR3
  have HWZ := Lib.hid (HZ.out.trans (HB3.out.mono HZ.out.size))
  have H3W := Lib.hid (H3.out.below HB3.out H3.out.lt)
  have HK3 := Lib.hid (show Rd W3 (w.heap.size + 1) (some ⟨w.heap.size, 0, none⟩) (byt k) from rd_blk H3W.out (byt k) 32 (by show byt k = ((byt k).toArray.toList).take 32; rw [List.toList_toArray, List.take_of_length_le (by rw [byt_len, HK.out]; decide)]))
  have HZL := Lib.hid (show Z.heap.size ≤ W3.heap.size from HB3.out.size)
  obtain ⟨F8, hF8⟩ : ∃ F8, F8 = form n 8 := ⟨_, rfl⟩
  have HF := Lib.hid hF8
  have HFL := Lib.hid (show F8.length = 8 by rw [hF8, form_len])
  obtain ⟨I7, hI7⟩ : ∃ I7, I7 = s ++ [0] ++ F8 := ⟨_, rfl⟩
  have HI7 := Lib.hid hI7
  have HIL := Lib.hid (show I7.length ≤ 1009 by rw [hI7, List.length_append, HFL.out, List.length_append, List.length_singleton]; omega)
  have HIB := Lib.hid (show ∀ c ∈ I7, c < 256 from fun c hc => by
    rw [hI7] at hc
    rcases List.mem_append.1 hc with h | h
    · rcases List.mem_append.1 h with h | h
      · exact HS.out c h
      · rw [List.mem_singleton.1 h]; decide
    · rw [hF8] at h; exact form_lt _ _ c h)
  have HDRV := Lib.hid (show drv k s n = expd k I7 32 by rw [hI7, hF8]; rfl)
  clear hF8 hI7
  go_wp2_with (first
    | (at_builtin; refine wpList_app _ rfl (.tmp 15) (.tmp 16) _ rfl W3.heap.size 5 i0 (.int .u8 0) 1 1 Tryd.underlying22 hi hz0 hz1 hz2 rfl (by decide) _ 0 [] rfl (by exact OwnB.new W3 _ [] (Nat.le_refl _) (by simp [maxLen])) (w.heap.size + 1) (some ⟨w.heap.size, 0, none⟩) 32 32 (byt k) rfl (by simp [byt_len, HK.out]) (by exact HK3.out.ext ((Below.refl _ _).alloc (Nat.le_refl _) _)) (byt_one _) (by decide) (by decide) (by simp) ?_; intro v4 w4 hap; have ho4 := (show OwnB w4 W3.heap.size v4 k from (by have := hap.own; unfold OwnB; rw [HK.out]; simpa using this)); have HB4 := Lib.hid (show Below W3.heap.size W3 w4 from ((Below.refl _ _).alloc (Nat.le_refl _) _).trans (hap.below (by exact OwnB.new W3 _ [] (Nat.le_refl _) (by simp [maxLen])) (by simp))); obtain ⟨A4, k4, rfl, _, _, r4⟩ := ho4.rd; have HO4 := Lib.hid ho4; have HM4 := Lib.hid (HM3.out.next HB4.out); clear hap ho4 r4)
    | (go_at_call 53; (refine (rform_c n 8 w4 hn (by decide)).mono ?_); rw [← HF.out]; rintro e w5 ⟨v5, rfl, ho5, hb5⟩; obtain ⟨A5, k5, rfl, _, _, r5⟩ := ho5.rd; have HR5 := Lib.hid r5; have HB5 := Lib.hid hb5; have HO45 := Lib.hid (HO4.out.next hb5); have HM5 := Lib.hid (HM4.out.next hb5); have hzl5 := Nat.le_trans HZL.out (Nat.le_trans HB4.out.size HB5.out.size); obtain ⟨v7, w7, hrun7, hm7, hb7, hon7⟩ := app_marks w5 Z.heap.size (.slice A3 (s.length + 1) c3) (s ++ [0]) F8 22 A5 k5 w5.heap.size HM5.out hzl5 (by simp; omega) (by rw [HFL.out]; decide) (by intro h0; have := HFL.out; rw [h0] at this; cases this) HR5.out; have HR7 := Lib.hid hrun7; rw [← HI7.out] at hm7; obtain ⟨A7, c7, rfl, hr7⟩ := hm7.rd; have HRD7 := Lib.hid hr7; have HB7 := Lib.hid (show Below Z.heap.size w5 w7 from hb7); have HO47 := Lib.hid (show OwnB w7 W3.heap.size (.slice A4 k.length k4) k from own_keep HO45.out hon7 (fun g h1 h2 => (by have := HM3.out.lt g h2; have := own_base HO45.out g h1; omega))); have HB57 := Lib.hid (show Below Z.heap.size Z w7 from ((HB3.out.trans (HB4.out.mono HZL.out)).trans (HB5.out.mono (Nat.le_trans HZL.out HB4.out.size))).trans hb7); clear ho5 hb5 r5 hrun7 hm7 hr7 hb7 hon7)
    | (at_builtin; refine wpList_valM rfl (.slice A7 I7.length c7) w7 (op_append rfl rfl rfl HR7.out) ?_))
  have HZW := Lib.hid (HZ.out.trans (HB57.out.mono HZ.out.size))
  obtain ⟨A4', k4', e4, _, _, hr4⟩ := HO47.out.rd
  injection e4 with e41 e42 e43
  subst e41 e43
  have hexp := rexpand_c w7.heap.size w7.heap.size A4 A7 k4 c7 k I7 32 w7 hr4 HRD7.out (Nat.le_refl _) (Nat.le_refl _) HKL.out HIB.out (by rw [HK.out]; decide) (by have := HIL.out; omega) (by decide)
  rw [HK.out, ← HDRV.out] at hexp
  have HEX := Lib.hid hexp
  obtain ⟨DV, hDV⟩ : ∃ DV, DV = drv k s n := ⟨_, rfl⟩
  rw [← hDV] at HEX
  have HDL := Lib.hid (show DV.length = 32 by rw [hDV, drv_len])
  have HSZ := Lib.hid (show (Tryd.prog.info? 25).map (·.size) = some (vb DV).size by rw [vb_size, HDL.out]; kernel_rfl)
  have HDVV := Lib.hid hDV
  have H67 := Lib.hid (H6.out.below HB57.out H6.out.lt)
  clear hDV hexp hr4 e42 HDRV HO47 HO45 HM5 HM4 HM3 HRD7 HR5 HO4 HB4 HB5 HB7 HB3 HK3 H3W HWZ H3 H6 HCV
  go_wp2_with (go_at_call 25; (refine HEX.out.mono ?_); rintro e w8 ⟨A8, c8, rfl, hr8, hb8⟩; obtain ⟨ad8, rfl, hab8, hc8⟩ := hr8 (by intro h0; have := congrArg List.length h0; rw [byt_len, HDL.out] at this; cases this); have HC8 := Lib.hid hc8; have HBW := Lib.hid (HZW.out.trans (hb8.mono HZW.out.size)); have H68 := Lib.hid (H67.out.below hb8 H67.out.lt); clear hr8 hb8 hc8)
  obtain ⟨Y, hY⟩ : ∃ Y, Y = w8.alloc (Obj.cells zKey 25) := ⟨_, rfl⟩
  have h6ne : w.heap.size + 1 ≠ w8.heap.size := Nat.ne_of_lt H68.out.lt
  have HCP := Lib.hid (show CpS w Y w8.heap.size (w.heap.size + 1) DV 0 by
    rw [hY]
    exact ⟨HBW.out.alloc HBW.out.size _, by rw [outZ_zero HDL.out]; exact Blk.new _ _ _, H68.out.alloc _⟩)
  have HCY := Lib.hid (show ∀ j u, (byt DV)[j]? = some u → Y.cell? (ad8.add j) = some u from fun j u hu => by
    rw [hY]
    exact ((Below.refl w8.heap.size w8).alloc (Nat.le_refl _) _).cell (p := ad8.add j) (by rw [add_block]; exact hab8) |>.trans (HC8.out j u hu))
  have hab9 : ad8.block < w8.heap.size := hab8
  rw [← hY]
  have hwl := HBW.out.size
  clear hY HC8 hab8 HZW HEX H67 H68 HBW
  generalize w8.heap.size = g9 at *
  go_loopw [10] (fun i wr => ∃ j : Nat, j ≤ 32 ∧ i = .int .i64 (j : Int) ∧ CpS w wr g9 (w.heap.size + 1) DV j ∧ ∀ j u, (byt DV)[j]? = some u → wr.cell? (ad8.add j) = some u) (fun i _ => 32 - (intOf i).toNat)
  case atStart => exact ⟨0, by omega, rfl, HCP.out, HCY.out⟩
  case round =>
    rename World => wo
    obtain ⟨j, hj, rfl, hs, hcs⟩ := hrel
    have HCS := Lib.hid hs
    have HCC := Lib.hid hcs
    clear hs hcs HCP HCY
    by_cases hlt : j < 32
    · have q0 := HCC.out j _ (byt_at (by rw [HDL.out]; exact hlt))
      have q1 : (j : Int) < 32 := by omega
      have eo := HCS.out.h9.cell j
      rw [vb_at _ j (by rw [outZ_len _ _ (by rw [HDL.out]; omega), HDL.out]; exact hlt)] at eo
      have ef := HCS.out.h9.free j
      have HSET := Lib.hid (outZ_set DV j (by rw [HDL.out]; exact hlt))
      generalize DV.getD j 0 = d at *
      go_wp2_with fail
      refine ⟨⟨j + 1, by omega, by congr 1, ⟨HCS.out.bel.setCell hwl _, ?_, HCS.out.h6.far h6ne _⟩, fun i u hu => ?_⟩, ?_⟩
      · rw [← HSET.out, ← vb_set]
        exact HCS.out.h9.set_ _ _
      · rw [World.cell?_setCell_far _ _ _ _ (by rw [add_block]; exact (Nat.ne_of_lt hab9).symm)]
        exact HCC.out i u hu
      · simp only [intOf]; omega
    · obtain rfl : j = 32 := by omega
      have h9 := HCS.out.h9
      rw [show (32 : Nat) = DV.length from HDL.out.symm, outZ_end] at h9
      have H9 := Lib.hid h9
      have H6F := Lib.hid HCS.out.h6
      have HBF := Lib.hid HCS.out.bel
      clear h9 HCS HCC
      go_wp2_with (first
        | (refine wpList_load_row rfl 25 (.tmp 9) rfl g9 rfl 25 (vb DV) (0, 0) _ (by exact H9.out) Tryd.underlying25 rfl HSZ.out ?_)
        | (refine wpList_store_rowTo rfl 25 (.tmp 6) (.tmp 33) rfl rfl (w.heap.size + 1) (vb DV) rfl rfl 25 zKey H6F.out HSZ.out (by rw [vb_size, HDL.out]; rfl) (vb_one _) ?_))
      first
        | rw [Exit.noGoto_ret]
        | skip
      refine bodyPost_ret (results_cell_row rfl _ _ (w.heap.size + 1) 25 (vb DV) (0, 0) _ rfl (setRow_heap _ _ zKey _ 25 (0, 0) H6F.out) Tryd.underlying25 rfl HSZ.out) rfl ?_
      exact ⟨by rw [HDVV.out], below_row HBF.out (by omega) _⟩
end Go.Proofs.YthlmlmkabjppeaaDoor
