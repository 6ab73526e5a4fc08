/- Parts, one behind the other: Rn3 Rn4 Mac1 Mac2 Mac3 Aw03 Exp0 Ss3 Hm1 Exp1 Exp2 Mrk Rn5 Rn6 Rn7. -/
import Derived.Test.YtbgnjjbmidkhlaaDoorZ04
import Derived.Laws.CopyRow
import Derived.StillTailTactics
import Derived.Lib.ConvBytes
import Derived.Laws.IdiomCopy
import Derived.OrdersHeld
import Derived.WalkMore
import Derived.Deep.CutRange
import Derived.Lib.AppendStr
/- Contract: ring.New. -/
namespace Go.Proofs.YtbgnjjbmidkhlaaDoor
set_option linter.unusedVariables false
set_option linter.unusedSimpArgs false
set_option maxRecDepth 100000
open Go.RowKit
open Go.Sort (SWO PermIn SortedIn)
set_option linter.unusedVariables false
set_option linter.unusedSimpArgs false
def mkR (node i : Nat) : List Nat := [82] ++ form node 2 ++ form i 2
def rawP (node i : Nat) : Pt := (number ((sha (mkR node i)).take 8), node)
def rawTo (node k : Nat) : List Pt := (List.range k).map (rawP node)
def rawL (n : Nat) : List Pt := (List.range n).flatMap fun node => rawTo node 16
theorem rawTo_succ (node k : Nat) : rawTo node (k + 1) = rawTo node k ++ [rawP node k] := by
  unfold rawTo
  rw [List.range_succ, List.map_append]
  rfl
theorem rawL_succ (n : Nat) : rawL (n + 1) = rawL n ++ rawTo n 16 := by
  unfold rawL
  rw [List.range_succ, List.flatMap_append]
  simp
theorem rawTo_len (node k : Nat) : (rawTo node k).length = k := by simp [rawTo]
theorem rawL_len : ∀ n, (rawL n).length = 16 * n
  | 0 => rfl
  | n + 1 => by rw [rawL_succ, List.length_append, rawL_len n, rawTo_len]; omega
structure RAt (w : World) (g : Nat) (L : List Pt) (n : Nat) (v : Value) : Prop where
  blk : Blk w g 35 #[v, .int .i64 (n : Int)]
  own : OwnT w (g + 1) v L
theorem RAt.next {w w' : World} {g : Nat} {L : List Pt} {n : Nat} {v : Value} (h : RAt w g L n v) (hb : Below w.heap.size w w') : RAt w' g L n v := ⟨h.blk.below hb h.blk.lt, h.own.next hb⟩
theorem RAt.rowC {w : World} {g : Nat} {L : List Pt} {n : Nat} {v : Value} (h : RAt w g L n v) : w.cell? ⟨g, 0, none⟩ = some v := (h.blk.cell 0).trans rfl
theorem RAt.numC {w : World} {g : Nat} {L : List Pt} {n : Nat} {v : Value} (h : RAt w g L n v) : w.cell? ⟨g, 1, none⟩ = some (.int .i64 (n : Int)) := (h.blk.cell 1).trans rfl
section
variable {P : Program} {ops : Array Oper} {md : Region.Mode} {S S' : World → Prop} {Q : Exit → Act → World → Prop}
theorem run_nilR {o : Oper} {a : Act} {w : World} (x : Operand) (ho : o.op = .nilCheck x) (p : Addr) (hx : a.eval x = .pointer (some p)) : (execOp a.eval o).run P w = .ok (.value (.pointer (some p))) w := by
  unfold execOp
  simp [ho, hx]
theorem anyH_nilR (i : Nat) {oi : Oper} {fuel : Nat} {listed : Array Bool} {a : Act} {w : World} (hi : ops[i]? = some oi) (hs : Region.noSelect ops = true) (hf : Region.free md ops listed i = true) (hr : (Region.ready md ops listed).contains i = true)
    (hQ : ∀ v c a w, Q (.panic c) (a.put oi.dst v) w → Q (.panic c) a w) (hw : Region.wanted oi (yielded ops a.tmps) = true) (x : Operand) (ho : oi.op = .nilCheck x) (p : Addr) (hx : a.eval x = .pointer (some p)) (hS : S w)
    (a' : Act) (ha : a.put oi.dst (.pointer (some p)) = a') (h : wpAnyH P md ops Q S fuel (listed.setIfInBounds i true) a' w) : wpAnyH P md ops Q S (fuel + 1) listed a w := by
  subst ha
  exact wpAnyH_take hi hs hf hr (hQ _) (.inl ⟨hw, fun w' _ => run_nilR x ho p hx⟩) hS h

theorem anyH_sharpR : ∀ (fuel : Nat) (listed : Array Bool) (a : Act) (w : World), (∀ w, S' w → S w) → wpAnyH P md ops Q S' fuel listed a w → wpAnyH P md ops Q S fuel listed a w
  | 0, _, _, _, _, h => h
  | fuel + 1, listed, a, w, hs, h => ⟨h.1, fun i hi => wpOp_mono (fun a' w' h' => ⟨hs _ h'.1, anyH_sharpR fuel _ a' w' hs h'.2⟩) (h.2 i hi)⟩
theorem wp_store1R {o : Oper} {a : Act} {w w' : World} {K : Act → World → Prop} {T : TypeId} {x y : Operand} {p : Addr} {v : Value} (ho : o.op = .store T x y) (hx : a.eval x = .pointer (some p)) (hy : a.eval y = v) (hrun : (storeVar T p v).run P w = .ok () w') (h : K (a.put o.dst undef) w') : o.wp P a w K Q := by
  unfold Oper.wp execOp
  simp only [ho, hx, hy, Instr.storeAt, Instr.sureAddr, Sem.run_bind, Sem.run_pure, Result.andThen_ok, hrun]
  exact h
end
theorem op_load1R {P : Program} {o : Oper} {a : Act} {w : World} {T : TypeId} {x : Operand} {p : Addr} {v : Value} (ho : o.op = .load T x) (hx : a.eval x = .pointer (some p)) (hrun : (loadVar T p).run P w = .ok v w) : (execOp a.eval o).run P w = .ok (.value v) w := by
  unfold execOp
  simp only [ho, hx, Instr.loadAt, Instr.sureAddr, Sem.run_bind, Sem.run_pure, Result.andThen_ok, hrun]
theorem run_load_pts (w : World) (p : Addr) (v : Value) (hc : w.cell? p = some v) : (loadVar 33 p).run Tryd.prog w = .ok v w := by
  have h1 := Tryd.isAgg33 w
  simp [loadVar, Sem.run_bind, h1, load, hc, Sem.run]
theorem run_store_pts (w : World) (g i : Nat) (A : Option Addr) (n c : Nat) (u : Value) (hc : w.cell? ⟨g, i, none⟩ = some u) (hf : w.frozen? ⟨g, i, none⟩ = false) : (storeVar 33 ⟨g, i, none⟩ (.slice A n c)).run Tryd.prog w = .ok () (w.setCell ⟨g, i, none⟩ (.slice A n c)) := by
  have hz := Tryd.sizeOf33 w
  have ha : (⟨g, i, none⟩ : Addr).add 0 = ⟨g, i, none⟩ := by unfold Addr.add; simp
  have hst : (store ⟨g, i, none⟩ (.slice A n c)).run Tryd.prog w = .ok () (w.setCell ⟨g, i, none⟩ (.slice A n c)) := by
    rw [run_store Tryd.prog w _ _ _ rfl, hc]
    simp [hf]
  simp [storeVar, hz, Value.cells, storeCells, ha, hst]
theorem op_appR {o : Oper} {a : Act} {w w' : World} {t : TypeId} {s x : Operand} {v u r : Value} (ho : o.op = .call { callee := .builtin .append, args := #[s, x], argTypes := #[t, t] }) (hs : a.eval s = v) (hx : a.eval x = u) (hrun : (Builtin.append_ #[t, t] o.type #[v, u]).run Tryd.prog w = .ok r w') : (execOp a.eval o).run Tryd.prog w = .ok (.value r) w' := by
  unfold execOp
  simp only [ho, resolve, invoke, builtin, Sem.run_bind, Sem.run_pure, Result.andThen_ok, List.map_toArray, List.map_cons, List.map_nil, hs, hx, hrun]
theorem run_oneR (w : World) (c : Nat) {o : Oper} {ρ : Operand → Value} (x : Operand) (ho : o.op = .buildSlice 36 1 #[(0, x)]) (hx : ρ x = .int .u8 (c : Nat)) :
    (execOp ρ o).run Tryd.prog w = .ok (.value (.slice (some ⟨w.heap.size, 0, none⟩) 1 1)) (w.alloc (.cells (byt [c]).toArray 5)) := by
  obtain ⟨i0, hi, hz0, hz1, hz2⟩ := info_parts byteInfo
  have e1 : (#[(0, x)].map fun (p : Nat × Operand) => (p.1, ρ p.2)).toList = (([Value.int .u8 (c : Nat)].zipIdx 0).map fun x => (x.2, x.1)) := by
    simp [hx]
  have h1 := run_buildSlice (P := Tryd.prog) w 36 5 1 (#[(0, x)].map fun (p : Nat × Operand) => (p.1, ρ p.2)) (byt [c]).toArray i0 _ Tryd.underlying36 hi hz0 (by rw [hz1]; decide) (by rw [hz1]; decide) (by
    rw [hz1]
    refine (congrArg _ e1).trans ?_
    exact (Great.fill_flat [Value.int .u8 (c : Nat)] _ (fun v hv => by rw [List.mem_singleton.1 hv]; rfl) (by simp)))
  unfold execOp
  simp only [ho, Sem.run_bind, h1, Result.andThen_ok]
  rfl
theorem run_onePt (w : World) (p : Pt) {o : Oper} {ρ : Operand → Value} (x : Operand) (ho : o.op = .buildSlice 33 1 #[(0, x)]) (hx : ρ x = .agg (ptV p)) :
    (execOp ρ o).run Tryd.prog w = .ok (.value (.slice (some ⟨w.heap.size, 0, none⟩) 1 1)) (w.alloc (.cells (ptV p) 44)) := by
  obtain ⟨i, hi, hz, hs, _⟩ := point_parts
  have h1 := run_buildSlice (P := Tryd.prog) w 33 44 1 #[(0, .agg (ptV p))] (ptV p) i _ Tryd.underlying33 hi hz (by rw [hs]; omega) (by rw [hs]; omega) (by rw [hs]; kernel_rfl)
  unfold execOp
  simp only [ho, Sem.run_bind, List.map_toArray, List.map_cons, List.map_nil, hx, h1, Result.andThen_ok]
  rfl
theorem mkR_len (node i : Nat) : (mkR node i).length = 5 := by simp [mkR, form_len]
theorem mkR_lt (node i : Nat) : ∀ c ∈ mkR node i, c < 256 := fun c hc => by
  unfold mkR at hc
  rcases List.mem_append.1 hc with h | h
  · rcases List.mem_append.1 h with h | h
    · rw [List.mem_singleton.1 h]; decide
    · exact form_lt _ _ c h
  · exact form_lt _ _ c h
/-- num.Put with a width of 2 -/
theorem put2_c (A : Option Addr) (ca : Nat) (l : List Nat) (n k : Nat) (w : World) (hr : Rd w w.heap.size A (byt l)) (hk : l.length = k) (hn : n < 100) (h1 : k ≤ 100) :
    Calls Tryd.prog 12 #[.slice A k ca, .int .u64 n, .int .i64 2] w fun e w' => ∃ A' c', e = .returned (.slice A' (k + 2) c') ∧ Rd w' w'.heap.size A' (byt (l ++ form n 2)) ∧ Below w.heap.size w w' := by
  subst hk
  have h := put_c w.heap.size A ca l n 2 w hr (by omega) (by decide) (by decide) (by omega)
  refine h.mono ?_
  rintro e w' ⟨v, rfl, ho, hb⟩
  obtain ⟨A', c', rfl, _, _, hr'⟩ := ho.rd
  rw [show tailOf n 2 = form n 2 from rfl] at hr' ⊢
  refine ⟨A', c', ?_, hr', hb⟩
  rw [List.length_append, form_len]
/-- a point's number -/
theorem ofR_c (A : Option Addr) (c n : Nat) (m : List Nat) (g : Nat) (w : World) (hh : Blk w g 36 #[.slice A n c]) (hn : m.length = n) (hr : Rd w w.heap.size A (byt m)) (hml : ∀ c ∈ m, c < 256) (hl : n ≤ 1000) (hR : RoundsAt w) :
    Calls Tryd.prog 14 #[.slice (some ⟨g, 0, none⟩) 1 1] w fun e w' => e = .returned (.agg (vb (sha m))) ∧ Below w.heap.size w w' := by
  subst hn
  exact ArrAt.of (ps := [(A, c, m)]) ⟨g, rfl, Nat.zero_le _, hh⟩ m (by show m ++ [] = m; simp) hml (by intro p hp; simp at hp; subst hp; exact hr) (by omega) (by simp) hR
end Go.Proofs.YtbgnjjbmidkhlaaDoor
/- Contract: ring.New. -/
namespace Go.Proofs.YtbgnjjbmidkhlaaDoor
set_option linter.unusedVariables false
set_option linter.unusedSimpArgs false
set_option maxRecDepth 100000
open Go.RowKit
open Go.Sort (SWO PermIn SortedIn)
set_option linter.unusedVariables false
set_option linter.unusedSimpArgs false
/-- the ring while it is made: L its points so far -/
structure RMk (w : World) (g : Nat) (L : List Pt) (m : Nat) (W : World) : Prop where
  bel : Below w.heap.size w W
  at_ : ∃ v, RAt W g L m v
theorem RMk.next {w W W' : World} {g m : Nat} {L : List Pt} (h : RMk w g L m W) (hb : Below W.heap.size W W') : RMk w g L m W' := ⟨h.bel.trans (hb.mono h.bel.size), by
  obtain ⟨v, hv⟩ := h.at_
  exact ⟨v, hv.next hb⟩⟩
/-- a row is laid into the ring -/
theorem RAt.set_ {w w' : World} {g n : Nat} {L L' : List Pt} {v v' : Value} (h : RAt w g L n v) (hb : Below (g + 1) w w') (ho : OwnT w' (g + 1) v' L') : RAt (w'.setCell ⟨g, 0, none⟩ v') g L' n v' := by
  have hb1 : Blk w' g 35 #[v, .int .i64 (n : Int)] := h.blk.below hb (Nat.lt_succ_self g)
  have h1 := hb1.set_ 0 v'
  refine ⟨h1, own_keep (S := fun i => i = g) ho ((Only.refl (fun i => i = g) w').setCell (p := ⟨g, 0, none⟩) (fun _ => rfl) v') (fun b hb0 => by have := own_base ho b hb0; omega)⟩
theorem OwnT.forms {w : World} {base : Nat} {v : Value} {l : List Pt} (h : OwnT w base v l) (hn : 0 < l.length) : ∃ gl cap rest, v = .slice (some ⟨gl, 0, none⟩) l.length cap ∧ base ≤ gl ∧ gl < w.heap.size ∧ Blk w gl 44 (pts l ++ rest).toArray ∧ (∀ (w' : World) (l' : List Pt), l'.length = l.length → Blk w' gl 44 (pts l' ++ rest).toArray → OwnT w' base (.slice (some ⟨gl, 0, none⟩) l.length cap) l') := by
  rcases h.2 with ⟨h1, h2⟩ | ⟨g', cap, cur, e, hb, hh, hnn, hm, hc, ht⟩
  · omega
  · have e1 : cur = (pts l ++ cur.toList.drop (l.length * 2)).toArray := by
      rw [← ht, List.take_append_drop]
    refine ⟨g', cap, cur.toList.drop (l.length * 2), e, hb, (Array.getElem?_eq_some_iff.1 hh).1, by rw [← e1]; exact hh, fun w' l' hl' hB => ⟨pts_len l', .inr ⟨g', cap, _, by rw [hl'], hb, hB, by rw [hl']; exact hnn, hm, ?_, ?_⟩⟩⟩
    · rw [← hc, e1]; simp [pts_len, hl']
    · show List.take (l'.length * 2) (pts l' ++ _) = _
      rw [List.take_left' (pts_len l')]
def NewOk (w : World) (m : Nat) (e : Ending) (w' : World) : Prop := ∃ L v, e = .returned (.pointer (some ⟨w.heap.size, 0, none⟩)) ∧ SortR L ∧ L.Perm (rawL m) ∧ RAt w' w.heap.size L m v ∧ Below w.heap.size w w'
set_option maxRecDepth 100000 in
set_option maxHeartbeats 32000000 in
theorem new_c (n y : Int) (m : Nat) (w : World) (h1 : min n 32 = y) (h2 : max 0 y = (m : Int)) (hm : m ≤ 32) (hR : RoundsAt w) :
    Calls Tryd.prog 6 #[.int .i64 n] w (NewOk w m) := by
  obtain ⟨i0, hi, hz0, hz1, hz2⟩ := point_parts
  have HRO := Lib.hid hR
  clear hR
  obtain ⟨g, hg⟩ : ∃ g, g = w.heap.size := ⟨_, rfl⟩
  have HG := Lib.hid hg
  go_enter Tryd.func6, Tryd.ntmps6
  go_upto_region 2 with fail
  obtain ⟨Z, hZ⟩ : ∃ Z, Z = w.alloc (Obj.cells #[.slice none 0 0, .int .i64 (m : Int)] 35) := ⟨_, rfl⟩
  have hrz : RMk w g [] m Z := ⟨by rw [hZ]; exact (Below.refl _ _).alloc (Nat.le_refl _) _, .slice none 0 0, by rw [hZ, hg]; exact Blk.new w _ _, OwnT.nil_ _ _⟩
  rw [← hZ, ← hg]
  have HRZ := Lib.hid hrz
  have c1 : Z.cell? ⟨g, 1, none⟩ = some (.int .i64 (m : Int)) := by
    obtain ⟨v, hv⟩ := hrz.at_
    exact hv.numC
  clear hZ hrz h1 h2 hg
  go_wp2_with fail
  clear c1
  go_loopw [16] (fun kv wr => ∃ k : Nat, k ≤ m ∧ kv = .int .i64 (k : Nat) ∧ RMk w g (rawL k) m wr) (fun kv _ => m - (intOf kv).toNat)
  case atStart => exact ⟨0, Nat.zero_le _, rfl, HRZ.out⟩
  case round =>
    rename World => wr
    obtain ⟨k, hk, rfl, hrk⟩ := hrel
    by_cases hlt : k < m
    · have q1 : (k : Int) < (m : Int) := by omega
      have q2 : (k : Int) < 100 := by omega
      have HR1 := Lib.hid hrk
      have HLT := Lib.hid hlt
      have HKK := Lib.hid (show k < 100 by omega)
      clear hrk hlt hk
      go_wp2_with fail
      go_loopw [19] (fun jv wq => ∃ j : Nat, j ≤ 16 ∧ jv = .int .i64 (j : Nat) ∧ RMk w g (rawL k ++ rawTo k j) m wq) (fun jv _ => 16 - (intOf jv).toNat)
      case atStart => exact ⟨0, by omega, rfl, by rw [show rawTo k 0 = [] from rfl, List.append_nil]; exact HR1.out⟩
      case round =>
        rename World => wq
        obtain ⟨j, hj, rfl, hrj⟩ := hrel
        by_cases hlj : j < 16
        · have p1 : (j : Int) < 16 := by omega
          have p2 : (j : Int) < 100 := by omega
          have HRJ := Lib.hid hrj
          have HLJ := Lib.hid hlj
          have HLEN := Lib.hid (show (rawL k ++ rawTo k j).length ≤ 1000 by rw [List.length_append, rawL_len, rawTo_len]; have := HLT.out; omega)
          have HSUC := Lib.hid (show rawL k ++ rawTo k (j + 1) = (rawL k ++ rawTo k j) ++ [rawP k j] by rw [rawTo_succ, List.append_assoc])
          have HML := Lib.hid (mkR_lt k j)
          have HP := Lib.hid (show number ((sha (mkR k j)).take 8) = (rawP k j).1 ∧ k = (rawP k j).2 from ⟨rfl, rfl⟩)
          have HMK := Lib.hid (show mkR k j = [82] ++ form k 2 ++ form j 2 from rfl)
          have HMN := Lib.hid (mkR_len k j)
          clear hrj hlj hj
          generalize rawL k ++ rawTo k j = L at *
          generalize rawP k j = p at *
          generalize mkR k j = mk at *
          go_upto_region 9 with (first
            | (refine wpList_valM rfl _ _ (run_oneR wq 82 _ rfl (by rfl)) ?_
               obtain ⟨W1, e1⟩ : ∃ W1, W1 = wq.alloc (.cells (byt [82]).toArray 5) := ⟨_, rfl⟩
               rw [← e1]
               have hb1 : Below wq.heap.size wq W1 := by rw [e1]; exact (Below.refl _ _).alloc (Nat.le_refl _) _
               have B1 := Lib.hid hb1
               have hrd1 : Rd W1 W1.heap.size (some ⟨wq.heap.size, 0, none⟩) (byt [82]) := by rw [e1]; exact Rd.more (rd_new wq (byt [82]) _ (0, 0)) (by simp)
               have GP1 := Lib.hid (put2_c (some ⟨wq.heap.size, 0, none⟩) 1 [82] k 1 W1 hrd1 rfl HKK.out (by decide))
               clear e1 hb1 hrd1)
            | (go_at_call 12; (with_reducible refine GP1.out.mono ?_); rintro e W2 ⟨A2, c2, rfl, hr2, hb2⟩; have B2 := Lib.hid (B1.out.trans (hb2.mono B1.out.size)); have GP2 := Lib.hid (put2_c A2 c2 ([82] ++ form k 2) j 3 W2 hr2 (by simp [form_len]) (by have := HLJ.out; omega) (by decide)); clear hr2 hb2 GP1)
            | (go_at_call 12; (with_reducible refine GP2.out.mono ?_); rintro e W3 ⟨A3, c3, rfl, hr3, hb3⟩; have B3 := Lib.hid (B2.out.trans (hb3.mono B2.out.size)); have HR3 := Lib.hid hr3; clear hr3 hb3 GP2))
          have HRJ3 := Lib.hid (HRJ.out.next B3.out)
          have hm3 : Rd W3 W3.heap.size A3 (byt mk) := by rw [HMK.out]; exact HR3.out
          have HM3 := Lib.hid hm3
          have HRO3 := Lib.hid (HRO.out.next HRJ3.out.bel)
          obtain ⟨v, hv⟩ := HRJ3.out.at_
          obtain ⟨AL, cL, rfl, hlc, hlm, _⟩ := hv.own.rd
          have HV := Lib.hid hv
          clear hm3 hv HR3 B1 B2 HRJ hlc hlm
          refine wp_region_held (S := fun _ => True) (by kernel_rfl) ?_
          show wpAnyH _ _ _ _ _ 16 _ _ W3.drew
          refine anyH_quiet 0 rfl (by kernel_rfl) (by kernel_rfl) (by kernel_rfl) (fun _ _ _ _ h => h) rfl rfl trivial ?_
          intro K hK
          conv => arg 2; whnf
          go_big_quiet_op
          go_big_quiet_on
          refine anyH_quiet 1 rfl (by kernel_rfl) (by kernel_rfl) (by kernel_rfl) (fun _ _ _ _ h => h) rfl rfl trivial ?_
          intro K hK
          conv => arg 2; whnf
          go_big_quiet_op
          go_big_quiet_on
          refine anyH_nilR 2 rfl (by kernel_rfl) (by kernel_rfl) (by kernel_rfl) (fun _ _ _ _ h => h) rfl (.tmp 30) rfl ⟨g, 0, none⟩ rfl trivial _ (by conv => lhs; arg 2; whnf) ?_
          simp only [Act.put, List.setIfInBounds_toArray, List.set_cons_succ, List.set_cons_zero]
          refine anyH_quiet 3 rfl (by kernel_rfl) (by kernel_rfl) (by kernel_rfl) (fun _ _ _ _ h => h) rfl rfl trivial ?_
          intro K hK
          conv => arg 2; whnf
          go_big_quiet_op
          go_big_quiet_on
          refine anyH_quiet 5 rfl (by kernel_rfl) (by kernel_rfl) (by kernel_rfl) (fun _ _ _ _ h => h) rfl rfl trivial ?_
          intro K hK
          conv => arg 2; whnf
          go_big_quiet_op
          go_big_quiet_on
          refine anyH_quiet 9 rfl (by kernel_rfl) (by kernel_rfl) (by kernel_rfl) (fun _ _ _ _ h => h) rfl rfl trivial ?_
          intro K hK
          conv => arg 2; whnf
          go_big_quiet_op
          go_big_quiet_on
          have hU0 : Below W3.heap.size W3 W3.drew := (Below.refl _ _).drew
          generalize W3.drew = U0 at *
          refine anyH_two 4 6 (by kernel_rfl) rfl rfl rfl rfl ?_ ?_
          · refine op_value (op_load1R rfl rfl (run_load_pts U0 ⟨g, 0, none⟩ _ ((hU0.cell (p := ⟨g, 0, none⟩) HV.out.blk.lt).trans HV.out.rowC))) _ (by conv => lhs; arg 2; whnf) ⟨trivial, ?_⟩
            try simp only [Act.put, List.setIfInBounds_toArray, List.set_cons_succ, List.set_cons_zero]
            refine anyH_op 6 (by kernel_rfl) rfl rfl ?_
            refine op_value (run_build1 U0 (A3, c3, mk) _ rfl (by rw [show pv (A3, c3, mk) = .slice A3 5 c3 by unfold pv; rw [HMN.out]]; rfl)) _ (by conv => lhs; arg 2; whnf) ⟨trivial, ?_⟩
            have hU1 : Below W3.heap.size W3 (U0.alloc (.cells ([(A3, c3, mk)].map pv).toArray 36)) := hU0.alloc hU0.size _
            have hbk : Blk (U0.alloc (.cells ([(A3, c3, mk)].map pv).toArray 36)) U0.heap.size 36 #[.slice A3 mk.length c3] := Blk.new U0 _ _
            generalize U0.alloc (.cells ([(A3, c3, mk)].map pv).toArray 36) = U1 at *
            try simp only [Act.put, List.setIfInBounds_toArray, List.set_cons_succ, List.set_cons_zero]
            refine anyH_op 7 (by kernel_rfl) rfl rfl ?_
            refine op_call (by kernel_rfl) _ (fun v => by conv => lhs; arg 2; whnf) ((ofR_c A3 c3 mk.length mk U0.heap.size U1 hbk rfl (((show Rd W3 W3.heap.size A3 (byt mk) from HM3.out).below hU1).more hU1.size) HML.out (by rw [HMN.out]; decide) (HRO3.out.next hU1)).mono ?_)
            rintro e U2 ⟨rfl, hb2⟩
            have hU2 : Below W3.heap.size W3 U2 := hU1.trans (hb2.mono hU1.size)
            clear hb2
            refine ⟨_, rfl, trivial, ?_⟩
            try simp only [Act.put, List.setIfInBounds_toArray, List.set_cons_succ, List.set_cons_zero]
            refine anyH_op 8 (by kernel_rfl) rfl rfl ?_
            refine op_call (by kernel_rfl) _ (fun v => by conv => lhs; arg 2; whnf) ((short_c (sha mk) U2 (sha_len mk) (sha_lt mk)).mono ?_)
            rintro e U3 ⟨rfl, hb3⟩
            have hU3 : Below W3.heap.size W3 U3 := hU2.trans (hb3.mono hU2.size)
            clear hb3
            refine ⟨_, rfl, trivial, ?_⟩
            rw [HP.out.1]
            try simp only [Act.put, List.setIfInBounds_toArray, List.set_cons_succ, List.set_cons_zero]
            refine anyH_op 10 (by kernel_rfl) rfl rfl ?_
            refine op_value (v := .agg (ptV p)) (w' := U3) (by rw [show ptV p = #[.int .u64 (p.1 : Int), .int .i64 (k : Int)] by unfold ptV; rw [HP.out.2]]; kernel_rfl) _ (by conv => lhs; arg 2; whnf) ⟨trivial, ?_⟩
            try simp only [Act.put, List.setIfInBounds_toArray, List.set_cons_succ, List.set_cons_zero]
            refine anyH_op 11 (by kernel_rfl) rfl rfl ?_
            refine op_value (run_onePt U3 p _ rfl rfl) _ (by conv => lhs; arg 2; whnf) ⟨trivial, ?_⟩
            have hU4 : Below W3.heap.size W3 (U3.alloc (.cells (ptV p) 44)) := hU3.alloc hU3.size _
            have hrn : Rd (U3.alloc (.cells (ptV p) 44)) (U3.heap.size + 1) (some ⟨U3.heap.size, 0, none⟩) (pts [p]) := rd_new U3 (pts [p]) 44 (0, 0)
            generalize U3.alloc (.cells (ptV p) 44) = U4 at *
            try simp only [Act.put, List.setIfInBounds_toArray, List.set_cons_succ, List.set_cons_zero]
            have hv4 := HV.out.next hU4
            obtain ⟨v5, U5, hrun5, hap5⟩ := run_app (P := Tryd.prog) U4 (g + 1) 33 33 44 i0 (.agg zT) 2 16 Tryd.underlying33 hi hz0 hz1 hz2 rfl (by decide) (.slice AL L.length cL) L.length (pts L) hv4.own (U3.heap.size + 1) (some ⟨U3.heap.size, 0, none⟩) 1 1 (pts [p]) rfl hrn (pts_oneCell _) (by have := HLEN.out; omega) (by have := HLEN.out; omega) hv4.blk.lt
            have hb5 : Below (g + 1) U4 U5 := hap5.below hv4.own hv4.blk.lt
            have ho5 : OwnT U5 (g + 1) v5 (L ++ [p]) := OwnT.app (l := L) (m := [p]) hap5
            obtain ⟨A5, c5, rfl, _, _, _⟩ := ho5.rd
            refine anyH_op 12 (by kernel_rfl) rfl rfl ?_
            refine op_value (op_appR rfl rfl rfl hrun5) _ (by conv => lhs; arg 2; whnf) ⟨trivial, ?_⟩
            simp only [Act.put, List.setIfInBounds_toArray, List.set_cons_succ, List.set_cons_zero]
            refine anyH_nilR 13 rfl (by kernel_rfl) (by kernel_rfl) (by kernel_rfl) (fun _ _ _ _ h => h) rfl (.tmp 29) rfl ⟨g, 0, none⟩ rfl trivial _ (by conv => lhs; arg 2; whnf) ?_
            simp only [Act.put, List.setIfInBounds_toArray, List.set_cons_succ, List.set_cons_zero]
            refine anyH_quiet 14 rfl (by kernel_rfl) (by kernel_rfl) (by kernel_rfl) (fun _ _ _ _ h => h) rfl rfl trivial ?_
            intro K hK
            conv => arg 2; whnf
            go_big_quiet_op
            go_big_quiet_on
            refine anyH_op 15 (by kernel_rfl) rfl rfl ?_
            have hc5 := (hv4.blk.below hb5 (Nat.lt_succ_self g))
            refine wp_store1R rfl rfl rfl (run_store_pts U5 g 0 A5 (L ++ [p]).length c5 _ ((hc5.cell 0).trans rfl) (hc5.free _)) ⟨trivial, ?_⟩
            have hfin : RMk w g (L ++ [p]) m (U5.setCell ⟨g, 0, none⟩ (.slice A5 (L ++ [p]).length c5)) := ⟨by
              have hw4 := HRJ3.out.bel.trans (hU4.mono HRJ3.out.bel.size)
              exact Below.setCell (hw4.trans (hb5.mono (by rw [HG.out]; omega))) (by rw [HG.out]; exact Nat.le_refl _) _, _, hv4.set_ hb5 ho5⟩
            have HFIN := Lib.hid hfin
            generalize U5.setCell ⟨g, 0, none⟩ (.slice A5 (L ++ [p]).length c5) = UF at *
            clear hfin hc5 hrun5 hap5 hb5 ho5 hv4 hrn hU0 hU1 hU2 hU3 hU4 hbk
            simp only [Act.put, List.setIfInBounds_toArray, List.set_cons_succ, List.set_cons_zero]
            refine wpAnyH_done (by kernel_rfl) ?_ _
            go_wp2_with fail
            go_roundw
            case rel => exact ⟨j + 1, HLJ.out, by go_num, by rw [HSUC.out]; exact HFIN.out⟩
            case measure => have := HLJ.out; simp [intOf]; omega
          · refine op_value (run_build1 U0 (A3, c3, mk) _ rfl (by rw [show pv (A3, c3, mk) = .slice A3 5 c3 by unfold pv; rw [HMN.out]]; rfl)) _ (by conv => lhs; arg 2; whnf) ⟨trivial, ?_⟩
            have hU1 : Below W3.heap.size W3 (U0.alloc (.cells ([(A3, c3, mk)].map pv).toArray 36)) := hU0.alloc hU0.size _
            have hbk : Blk (U0.alloc (.cells ([(A3, c3, mk)].map pv).toArray 36)) U0.heap.size 36 #[.slice A3 mk.length c3] := Blk.new U0 _ _
            generalize U0.alloc (.cells ([(A3, c3, mk)].map pv).toArray 36) = U1 at *
            try simp only [Act.put, List.setIfInBounds_toArray, List.set_cons_succ, List.set_cons_zero]
            refine anyH_two 4 7 (by kernel_rfl) rfl rfl rfl rfl ?_ ?_
            · refine op_value (op_load1R rfl rfl (run_load_pts U1 ⟨g, 0, none⟩ _ ((hU1.cell (p := ⟨g, 0, none⟩) HV.out.blk.lt).trans HV.out.rowC))) _ (by conv => lhs; arg 2; whnf) ⟨trivial, ?_⟩
              try simp only [Act.put, List.setIfInBounds_toArray, List.set_cons_succ, List.set_cons_zero]
              refine anyH_op 7 (by kernel_rfl) rfl rfl ?_
              refine op_call (by kernel_rfl) _ (fun v => by conv => lhs; arg 2; whnf) ((ofR_c A3 c3 mk.length mk U0.heap.size U1 hbk rfl (((show Rd W3 W3.heap.size A3 (byt mk) from HM3.out).below hU1).more hU1.size) HML.out (by rw [HMN.out]; decide) (HRO3.out.next hU1)).mono ?_)
              rintro e U2 ⟨rfl, hb2⟩
              have hU2 : Below W3.heap.size W3 U2 := hU1.trans (hb2.mono hU1.size)
              clear hb2
              refine ⟨_, rfl, trivial, ?_⟩
              try simp only [Act.put, List.setIfInBounds_toArray, List.set_cons_succ, List.set_cons_zero]
              refine anyH_op 8 (by kernel_rfl) rfl rfl ?_
              refine op_call (by kernel_rfl) _ (fun v => by conv => lhs; arg 2; whnf) ((short_c (sha mk) U2 (sha_len mk) (sha_lt mk)).mono ?_)
              rintro e U3 ⟨rfl, hb3⟩
              have hU3 : Below W3.heap.size W3 U3 := hU2.trans (hb3.mono hU2.size)
              clear hb3
              refine ⟨_, rfl, trivial, ?_⟩
              rw [HP.out.1]
              try simp only [Act.put, List.setIfInBounds_toArray, List.set_cons_succ, List.set_cons_zero]
              refine anyH_op 10 (by kernel_rfl) rfl rfl ?_
              refine op_value (v := .agg (ptV p)) (w' := U3) (by rw [show ptV p = #[.int .u64 (p.1 : Int), .int .i64 (k : Int)] by unfold ptV; rw [HP.out.2]]; kernel_rfl) _ (by conv => lhs; arg 2; whnf) ⟨trivial, ?_⟩
              try simp only [Act.put, List.setIfInBounds_toArray, List.set_cons_succ, List.set_cons_zero]
              refine anyH_op 11 (by kernel_rfl) rfl rfl ?_
              refine op_value (run_onePt U3 p _ rfl rfl) _ (by conv => lhs; arg 2; whnf) ⟨trivial, ?_⟩
              have hU4 : Below W3.heap.size W3 (U3.alloc (.cells (ptV p) 44)) := hU3.alloc hU3.size _
              have hrn : Rd (U3.alloc (.cells (ptV p) 44)) (U3.heap.size + 1) (some ⟨U3.heap.size, 0, none⟩) (pts [p]) := rd_new U3 (pts [p]) 44 (0, 0)
              generalize U3.alloc (.cells (ptV p) 44) = U4 at *
              try simp only [Act.put, List.setIfInBounds_toArray, List.set_cons_succ, List.set_cons_zero]
              have hv4 := HV.out.next hU4
              obtain ⟨v5, U5, hrun5, hap5⟩ := run_app (P := Tryd.prog) U4 (g + 1) 33 33 44 i0 (.agg zT) 2 16 Tryd.underlying33 hi hz0 hz1 hz2 rfl (by decide) (.slice AL L.length cL) L.length (pts L) hv4.own (U3.heap.size + 1) (some ⟨U3.heap.size, 0, none⟩) 1 1 (pts [p]) rfl hrn (pts_oneCell _) (by have := HLEN.out; omega) (by have := HLEN.out; omega) hv4.blk.lt
              have hb5 : Below (g + 1) U4 U5 := hap5.below hv4.own hv4.blk.lt
              have ho5 : OwnT U5 (g + 1) v5 (L ++ [p]) := OwnT.app (l := L) (m := [p]) hap5
              obtain ⟨A5, c5, rfl, _, _, _⟩ := ho5.rd
              refine anyH_op 12 (by kernel_rfl) rfl rfl ?_
              refine op_value (op_appR rfl rfl rfl hrun5) _ (by conv => lhs; arg 2; whnf) ⟨trivial, ?_⟩
              simp only [Act.put, List.setIfInBounds_toArray, List.set_cons_succ, List.set_cons_zero]
              refine anyH_nilR 13 rfl (by kernel_rfl) (by kernel_rfl) (by kernel_rfl) (fun _ _ _ _ h => h) rfl (.tmp 29) rfl ⟨g, 0, none⟩ rfl trivial _ (by conv => lhs; arg 2; whnf) ?_
              simp only [Act.put, List.setIfInBounds_toArray, List.set_cons_succ, List.set_cons_zero]
              refine anyH_quiet 14 rfl (by kernel_rfl) (by kernel_rfl) (by kernel_rfl) (fun _ _ _ _ h => h) rfl rfl trivial ?_
              intro K hK
              conv => arg 2; whnf
              go_big_quiet_op
              go_big_quiet_on
              refine anyH_op 15 (by kernel_rfl) rfl rfl ?_
              have hc5 := (hv4.blk.below hb5 (Nat.lt_succ_self g))
              refine wp_store1R rfl rfl rfl (run_store_pts U5 g 0 A5 (L ++ [p]).length c5 _ ((hc5.cell 0).trans rfl) (hc5.free _)) ⟨trivial, ?_⟩
              have hfin : RMk w g (L ++ [p]) m (U5.setCell ⟨g, 0, none⟩ (.slice A5 (L ++ [p]).length c5)) := ⟨by
                have hw4 := HRJ3.out.bel.trans (hU4.mono HRJ3.out.bel.size)
                exact Below.setCell (hw4.trans (hb5.mono (by rw [HG.out]; omega))) (by rw [HG.out]; exact Nat.le_refl _) _, _, hv4.set_ hb5 ho5⟩
              have HFIN := Lib.hid hfin
              generalize U5.setCell ⟨g, 0, none⟩ (.slice A5 (L ++ [p]).length c5) = UF at *
              clear hfin hc5 hrun5 hap5 hb5 ho5 hv4 hrn hU0 hU1 hU2 hU3 hU4 hbk
              simp only [Act.put, List.setIfInBounds_toArray, List.set_cons_succ, List.set_cons_zero]
              refine wpAnyH_done (by kernel_rfl) ?_ _
              go_wp2_with fail
              go_roundw
              case rel => exact ⟨j + 1, HLJ.out, by go_num, by rw [HSUC.out]; exact HFIN.out⟩
              case measure => have := HLJ.out; simp [intOf]; omega
            · refine op_call (by kernel_rfl) _ (fun v => by conv => lhs; arg 2; whnf) ((ofR_c A3 c3 mk.length mk U0.heap.size U1 hbk rfl (((show Rd W3 W3.heap.size A3 (byt mk) from HM3.out).below hU1).more hU1.size) HML.out (by rw [HMN.out]; decide) (HRO3.out.next hU1)).mono ?_)
              rintro e U2 ⟨rfl, hb2⟩
              have hU2 : Below W3.heap.size W3 U2 := hU1.trans (hb2.mono hU1.size)
              clear hb2
              refine ⟨_, rfl, trivial, ?_⟩
              try simp only [Act.put, List.setIfInBounds_toArray, List.set_cons_succ, List.set_cons_zero]
              refine anyH_two 4 8 (by kernel_rfl) rfl rfl rfl rfl ?_ ?_
              · refine op_value (op_load1R rfl rfl (run_load_pts U2 ⟨g, 0, none⟩ _ ((hU2.cell (p := ⟨g, 0, none⟩) HV.out.blk.lt).trans HV.out.rowC))) _ (by conv => lhs; arg 2; whnf) ⟨trivial, ?_⟩
                try simp only [Act.put, List.setIfInBounds_toArray, List.set_cons_succ, List.set_cons_zero]
                refine anyH_op 8 (by kernel_rfl) rfl rfl ?_
                refine op_call (by kernel_rfl) _ (fun v => by conv => lhs; arg 2; whnf) ((short_c (sha mk) U2 (sha_len mk) (sha_lt mk)).mono ?_)
                rintro e U3 ⟨rfl, hb3⟩
                have hU3 : Below W3.heap.size W3 U3 := hU2.trans (hb3.mono hU2.size)
                clear hb3
                refine ⟨_, rfl, trivial, ?_⟩
                rw [HP.out.1]
                try simp only [Act.put, List.setIfInBounds_toArray, List.set_cons_succ, List.set_cons_zero]
                refine anyH_op 10 (by kernel_rfl) rfl rfl ?_
                refine op_value (v := .agg (ptV p)) (w' := U3) (by rw [show ptV p = #[.int .u64 (p.1 : Int), .int .i64 (k : Int)] by unfold ptV; rw [HP.out.2]]; kernel_rfl) _ (by conv => lhs; arg 2; whnf) ⟨trivial, ?_⟩
                try simp only [Act.put, List.setIfInBounds_toArray, List.set_cons_succ, List.set_cons_zero]
                refine anyH_op 11 (by kernel_rfl) rfl rfl ?_
                refine op_value (run_onePt U3 p _ rfl rfl) _ (by conv => lhs; arg 2; whnf) ⟨trivial, ?_⟩
                have hU4 : Below W3.heap.size W3 (U3.alloc (.cells (ptV p) 44)) := hU3.alloc hU3.size _
                have hrn : Rd (U3.alloc (.cells (ptV p) 44)) (U3.heap.size + 1) (some ⟨U3.heap.size, 0, none⟩) (pts [p]) := rd_new U3 (pts [p]) 44 (0, 0)
                generalize U3.alloc (.cells (ptV p) 44) = U4 at *
                try simp only [Act.put, List.setIfInBounds_toArray, List.set_cons_succ, List.set_cons_zero]
                have hv4 := HV.out.next hU4
                obtain ⟨v5, U5, hrun5, hap5⟩ := run_app (P := Tryd.prog) U4 (g + 1) 33 33 44 i0 (.agg zT) 2 16 Tryd.underlying33 hi hz0 hz1 hz2 rfl (by decide) (.slice AL L.length cL) L.length (pts L) hv4.own (U3.heap.size + 1) (some ⟨U3.heap.size, 0, none⟩) 1 1 (pts [p]) rfl hrn (pts_oneCell _) (by have := HLEN.out; omega) (by have := HLEN.out; omega) hv4.blk.lt
                have hb5 : Below (g + 1) U4 U5 := hap5.below hv4.own hv4.blk.lt
                have ho5 : OwnT U5 (g + 1) v5 (L ++ [p]) := OwnT.app (l := L) (m := [p]) hap5
                obtain ⟨A5, c5, rfl, _, _, _⟩ := ho5.rd
                refine anyH_op 12 (by kernel_rfl) rfl rfl ?_
                refine op_value (op_appR rfl rfl rfl hrun5) _ (by conv => lhs; arg 2; whnf) ⟨trivial, ?_⟩
                simp only [Act.put, List.setIfInBounds_toArray, List.set_cons_succ, List.set_cons_zero]
                refine anyH_nilR 13 rfl (by kernel_rfl) (by kernel_rfl) (by kernel_rfl) (fun _ _ _ _ h => h) rfl (.tmp 29) rfl ⟨g, 0, none⟩ rfl trivial _ (by conv => lhs; arg 2; whnf) ?_
                simp only [Act.put, List.setIfInBounds_toArray, List.set_cons_succ, List.set_cons_zero]
                refine anyH_quiet 14 rfl (by kernel_rfl) (by kernel_rfl) (by kernel_rfl) (fun _ _ _ _ h => h) rfl rfl trivial ?_
                intro K hK
                conv => arg 2; whnf
                go_big_quiet_op
                go_big_quiet_on
                refine anyH_op 15 (by kernel_rfl) rfl rfl ?_
                have hc5 := (hv4.blk.below hb5 (Nat.lt_succ_self g))
                refine wp_store1R rfl rfl rfl (run_store_pts U5 g 0 A5 (L ++ [p]).length c5 _ ((hc5.cell 0).trans rfl) (hc5.free _)) ⟨trivial, ?_⟩
                have hfin : RMk w g (L ++ [p]) m (U5.setCell ⟨g, 0, none⟩ (.slice A5 (L ++ [p]).length c5)) := ⟨by
                  have hw4 := HRJ3.out.bel.trans (hU4.mono HRJ3.out.bel.size)
                  exact Below.setCell (hw4.trans (hb5.mono (by rw [HG.out]; omega))) (by rw [HG.out]; exact Nat.le_refl _) _, _, hv4.set_ hb5 ho5⟩
                have HFIN := Lib.hid hfin
                generalize U5.setCell ⟨g, 0, none⟩ (.slice A5 (L ++ [p]).length c5) = UF at *
                clear hfin hc5 hrun5 hap5 hb5 ho5 hv4 hrn hU0 hU1 hU2 hU3 hU4 hbk
                simp only [Act.put, List.setIfInBounds_toArray, List.set_cons_succ, List.set_cons_zero]
                refine wpAnyH_done (by kernel_rfl) ?_ _
                go_wp2_with fail
                go_roundw
                case rel => exact ⟨j + 1, HLJ.out, by go_num, by rw [HSUC.out]; exact HFIN.out⟩
                case measure => have := HLJ.out; simp [intOf]; omega
              · refine op_call (by kernel_rfl) _ (fun v => by conv => lhs; arg 2; whnf) ((short_c (sha mk) U2 (sha_len mk) (sha_lt mk)).mono ?_)
                rintro e U3 ⟨rfl, hb3⟩
                have hU3 : Below W3.heap.size W3 U3 := hU2.trans (hb3.mono hU2.size)
                clear hb3
                refine ⟨_, rfl, trivial, ?_⟩
                rw [HP.out.1]
                try simp only [Act.put, List.setIfInBounds_toArray, List.set_cons_succ, List.set_cons_zero]
                refine anyH_two 4 10 (by kernel_rfl) rfl rfl rfl rfl ?_ ?_
                · refine op_value (op_load1R rfl rfl (run_load_pts U3 ⟨g, 0, none⟩ _ ((hU3.cell (p := ⟨g, 0, none⟩) HV.out.blk.lt).trans HV.out.rowC))) _ (by conv => lhs; arg 2; whnf) ⟨trivial, ?_⟩
                  try simp only [Act.put, List.setIfInBounds_toArray, List.set_cons_succ, List.set_cons_zero]
                  refine anyH_op 10 (by kernel_rfl) rfl rfl ?_
                  refine op_value (v := .agg (ptV p)) (w' := U3) (by rw [show ptV p = #[.int .u64 (p.1 : Int), .int .i64 (k : Int)] by unfold ptV; rw [HP.out.2]]; kernel_rfl) _ (by conv => lhs; arg 2; whnf) ⟨trivial, ?_⟩
                  try simp only [Act.put, List.setIfInBounds_toArray, List.set_cons_succ, List.set_cons_zero]
                  refine anyH_op 11 (by kernel_rfl) rfl rfl ?_
                  refine op_value (run_onePt U3 p _ rfl rfl) _ (by conv => lhs; arg 2; whnf) ⟨trivial, ?_⟩
                  have hU4 : Below W3.heap.size W3 (U3.alloc (.cells (ptV p) 44)) := hU3.alloc hU3.size _
                  have hrn : Rd (U3.alloc (.cells (ptV p) 44)) (U3.heap.size + 1) (some ⟨U3.heap.size, 0, none⟩) (pts [p]) := rd_new U3 (pts [p]) 44 (0, 0)
                  generalize U3.alloc (.cells (ptV p) 44) = U4 at *
                  try simp only [Act.put, List.setIfInBounds_toArray, List.set_cons_succ, List.set_cons_zero]
                  have hv4 := HV.out.next hU4
                  obtain ⟨v5, U5, hrun5, hap5⟩ := run_app (P := Tryd.prog) U4 (g + 1) 33 33 44 i0 (.agg zT) 2 16 Tryd.underlying33 hi hz0 hz1 hz2 rfl (by decide) (.slice AL L.length cL) L.length (pts L) hv4.own (U3.heap.size + 1) (some ⟨U3.heap.size, 0, none⟩) 1 1 (pts [p]) rfl hrn (pts_oneCell _) (by have := HLEN.out; omega) (by have := HLEN.out; omega) hv4.blk.lt
                  have hb5 : Below (g + 1) U4 U5 := hap5.below hv4.own hv4.blk.lt
                  have ho5 : OwnT U5 (g + 1) v5 (L ++ [p]) := OwnT.app (l := L) (m := [p]) hap5
                  obtain ⟨A5, c5, rfl, _, _, _⟩ := ho5.rd
                  refine anyH_op 12 (by kernel_rfl) rfl rfl ?_
                  refine op_value (op_appR rfl rfl rfl hrun5) _ (by conv => lhs; arg 2; whnf) ⟨trivial, ?_⟩
                  simp only [Act.put, List.setIfInBounds_toArray, List.set_cons_succ, List.set_cons_zero]
                  refine anyH_nilR 13 rfl (by kernel_rfl) (by kernel_rfl) (by kernel_rfl) (fun _ _ _ _ h => h) rfl (.tmp 29) rfl ⟨g, 0, none⟩ rfl trivial _ (by conv => lhs; arg 2; whnf) ?_
                  simp only [Act.put, List.setIfInBounds_toArray, List.set_cons_succ, List.set_cons_zero]
                  refine anyH_quiet 14 rfl (by kernel_rfl) (by kernel_rfl) (by kernel_rfl) (fun _ _ _ _ h => h) rfl rfl trivial ?_
                  intro K hK
                  conv => arg 2; whnf
                  go_big_quiet_op
                  go_big_quiet_on
                  refine anyH_op 15 (by kernel_rfl) rfl rfl ?_
                  have hc5 := (hv4.blk.below hb5 (Nat.lt_succ_self g))
                  refine wp_store1R rfl rfl rfl (run_store_pts U5 g 0 A5 (L ++ [p]).length c5 _ ((hc5.cell 0).trans rfl) (hc5.free _)) ⟨trivial, ?_⟩
                  have hfin : RMk w g (L ++ [p]) m (U5.setCell ⟨g, 0, none⟩ (.slice A5 (L ++ [p]).length c5)) := ⟨by
                    have hw4 := HRJ3.out.bel.trans (hU4.mono HRJ3.out.bel.size)
                    exact Below.setCell (hw4.trans (hb5.mono (by rw [HG.out]; omega))) (by rw [HG.out]; exact Nat.le_refl _) _, _, hv4.set_ hb5 ho5⟩
                  have HFIN := Lib.hid hfin
                  generalize U5.setCell ⟨g, 0, none⟩ (.slice A5 (L ++ [p]).length c5) = UF at *
                  clear hfin hc5 hrun5 hap5 hb5 ho5 hv4 hrn hU0 hU1 hU2 hU3 hU4 hbk
                  simp only [Act.put, List.setIfInBounds_toArray, List.set_cons_succ, List.set_cons_zero]
                  refine wpAnyH_done (by kernel_rfl) ?_ _
                  go_wp2_with fail
                  go_roundw
                  case rel => exact ⟨j + 1, HLJ.out, by go_num, by rw [HSUC.out]; exact HFIN.out⟩
                  case measure => have := HLJ.out; simp [intOf]; omega
                · refine op_value (v := .agg (ptV p)) (w' := U3) (by rw [show ptV p = #[.int .u64 (p.1 : Int), .int .i64 (k : Int)] by unfold ptV; rw [HP.out.2]]; kernel_rfl) _ (by conv => lhs; arg 2; whnf) ⟨trivial, ?_⟩
                  try simp only [Act.put, List.setIfInBounds_toArray, List.set_cons_succ, List.set_cons_zero]
                  refine anyH_two 4 11 (by kernel_rfl) rfl rfl rfl rfl ?_ ?_
                  · refine op_value (op_load1R rfl rfl (run_load_pts U3 ⟨g, 0, none⟩ _ ((hU3.cell (p := ⟨g, 0, none⟩) HV.out.blk.lt).trans HV.out.rowC))) _ (by conv => lhs; arg 2; whnf) ⟨trivial, ?_⟩
                    try simp only [Act.put, List.setIfInBounds_toArray, List.set_cons_succ, List.set_cons_zero]
                    refine anyH_op 11 (by kernel_rfl) rfl rfl ?_
                    refine op_value (run_onePt U3 p _ rfl rfl) _ (by conv => lhs; arg 2; whnf) ⟨trivial, ?_⟩
                    have hU4 : Below W3.heap.size W3 (U3.alloc (.cells (ptV p) 44)) := hU3.alloc hU3.size _
                    have hrn : Rd (U3.alloc (.cells (ptV p) 44)) (U3.heap.size + 1) (some ⟨U3.heap.size, 0, none⟩) (pts [p]) := rd_new U3 (pts [p]) 44 (0, 0)
                    generalize U3.alloc (.cells (ptV p) 44) = U4 at *
                    try simp only [Act.put, List.setIfInBounds_toArray, List.set_cons_succ, List.set_cons_zero]
                    have hv4 := HV.out.next hU4
                    obtain ⟨v5, U5, hrun5, hap5⟩ := run_app (P := Tryd.prog) U4 (g + 1) 33 33 44 i0 (.agg zT) 2 16 Tryd.underlying33 hi hz0 hz1 hz2 rfl (by decide) (.slice AL L.length cL) L.length (pts L) hv4.own (U3.heap.size + 1) (some ⟨U3.heap.size, 0, none⟩) 1 1 (pts [p]) rfl hrn (pts_oneCell _) (by have := HLEN.out; omega) (by have := HLEN.out; omega) hv4.blk.lt
                    have hb5 : Below (g + 1) U4 U5 := hap5.below hv4.own hv4.blk.lt
                    have ho5 : OwnT U5 (g + 1) v5 (L ++ [p]) := OwnT.app (l := L) (m := [p]) hap5
                    obtain ⟨A5, c5, rfl, _, _, _⟩ := ho5.rd
                    refine anyH_op 12 (by kernel_rfl) rfl rfl ?_
                    refine op_value (op_appR rfl rfl rfl hrun5) _ (by conv => lhs; arg 2; whnf) ⟨trivial, ?_⟩
                    simp only [Act.put, List.setIfInBounds_toArray, List.set_cons_succ, List.set_cons_zero]
                    refine anyH_nilR 13 rfl (by kernel_rfl) (by kernel_rfl) (by kernel_rfl) (fun _ _ _ _ h => h) rfl (.tmp 29) rfl ⟨g, 0, none⟩ rfl trivial _ (by conv => lhs; arg 2; whnf) ?_
                    simp only [Act.put, List.setIfInBounds_toArray, List.set_cons_succ, List.set_cons_zero]
                    refine anyH_quiet 14 rfl (by kernel_rfl) (by kernel_rfl) (by kernel_rfl) (fun _ _ _ _ h => h) rfl rfl trivial ?_
                    intro K hK
                    conv => arg 2; whnf
                    go_big_quiet_op
                    go_big_quiet_on
                    refine anyH_op 15 (by kernel_rfl) rfl rfl ?_
                    have hc5 := (hv4.blk.below hb5 (Nat.lt_succ_self g))
                    refine wp_store1R rfl rfl rfl (run_store_pts U5 g 0 A5 (L ++ [p]).length c5 _ ((hc5.cell 0).trans rfl) (hc5.free _)) ⟨trivial, ?_⟩
                    have hfin : RMk w g (L ++ [p]) m (U5.setCell ⟨g, 0, none⟩ (.slice A5 (L ++ [p]).length c5)) := ⟨by
                      have hw4 := HRJ3.out.bel.trans (hU4.mono HRJ3.out.bel.size)
                      exact Below.setCell (hw4.trans (hb5.mono (by rw [HG.out]; omega))) (by rw [HG.out]; exact Nat.le_refl _) _, _, hv4.set_ hb5 ho5⟩
                    have HFIN := Lib.hid hfin
                    generalize U5.setCell ⟨g, 0, none⟩ (.slice A5 (L ++ [p]).length c5) = UF at *
                    clear hfin hc5 hrun5 hap5 hb5 ho5 hv4 hrn hU0 hU1 hU2 hU3 hU4 hbk
                    simp only [Act.put, List.setIfInBounds_toArray, List.set_cons_succ, List.set_cons_zero]
                    refine wpAnyH_done (by kernel_rfl) ?_ _
                    go_wp2_with fail
                    go_roundw
                    case rel => exact ⟨j + 1, HLJ.out, by go_num, by rw [HSUC.out]; exact HFIN.out⟩
                    case measure => have := HLJ.out; simp [intOf]; omega
                  · refine op_value (run_onePt U3 p _ rfl rfl) _ (by conv => lhs; arg 2; whnf) ⟨trivial, ?_⟩
                    have hU4 : Below W3.heap.size W3 (U3.alloc (.cells (ptV p) 44)) := hU3.alloc hU3.size _
                    have hrn : Rd (U3.alloc (.cells (ptV p) 44)) (U3.heap.size + 1) (some ⟨U3.heap.size, 0, none⟩) (pts [p]) := rd_new U3 (pts [p]) 44 (0, 0)
                    generalize U3.alloc (.cells (ptV p) 44) = U4 at *
                    try simp only [Act.put, List.setIfInBounds_toArray, List.set_cons_succ, List.set_cons_zero]
                    refine anyH_op 4 (by kernel_rfl) rfl rfl ?_
                    refine op_value (op_load1R rfl rfl (run_load_pts U4 ⟨g, 0, none⟩ _ ((hU4.cell (p := ⟨g, 0, none⟩) HV.out.blk.lt).trans HV.out.rowC))) _ (by conv => lhs; arg 2; whnf) ⟨trivial, ?_⟩
                    try simp only [Act.put, List.setIfInBounds_toArray, List.set_cons_succ, List.set_cons_zero]
                    have hv4 := HV.out.next hU4
                    obtain ⟨v5, U5, hrun5, hap5⟩ := run_app (P := Tryd.prog) U4 (g + 1) 33 33 44 i0 (.agg zT) 2 16 Tryd.underlying33 hi hz0 hz1 hz2 rfl (by decide) (.slice AL L.length cL) L.length (pts L) hv4.own (U3.heap.size + 1) (some ⟨U3.heap.size, 0, none⟩) 1 1 (pts [p]) rfl hrn (pts_oneCell _) (by have := HLEN.out; omega) (by have := HLEN.out; omega) hv4.blk.lt
                    have hb5 : Below (g + 1) U4 U5 := hap5.below hv4.own hv4.blk.lt
                    have ho5 : OwnT U5 (g + 1) v5 (L ++ [p]) := OwnT.app (l := L) (m := [p]) hap5
                    obtain ⟨A5, c5, rfl, _, _, _⟩ := ho5.rd
                    refine anyH_op 12 (by kernel_rfl) rfl rfl ?_
                    refine op_value (op_appR rfl rfl rfl hrun5) _ (by conv => lhs; arg 2; whnf) ⟨trivial, ?_⟩
                    simp only [Act.put, List.setIfInBounds_toArray, List.set_cons_succ, List.set_cons_zero]
                    refine anyH_nilR 13 rfl (by kernel_rfl) (by kernel_rfl) (by kernel_rfl) (fun _ _ _ _ h => h) rfl (.tmp 29) rfl ⟨g, 0, none⟩ rfl trivial _ (by conv => lhs; arg 2; whnf) ?_
                    simp only [Act.put, List.setIfInBounds_toArray, List.set_cons_succ, List.set_cons_zero]
                    refine anyH_quiet 14 rfl (by kernel_rfl) (by kernel_rfl) (by kernel_rfl) (fun _ _ _ _ h => h) rfl rfl trivial ?_
                    intro K hK
                    conv => arg 2; whnf
                    go_big_quiet_op
                    go_big_quiet_on
                    refine anyH_op 15 (by kernel_rfl) rfl rfl ?_
                    have hc5 := (hv4.blk.below hb5 (Nat.lt_succ_self g))
                    refine wp_store1R rfl rfl rfl (run_store_pts U5 g 0 A5 (L ++ [p]).length c5 _ ((hc5.cell 0).trans rfl) (hc5.free _)) ⟨trivial, ?_⟩
                    have hfin : RMk w g (L ++ [p]) m (U5.setCell ⟨g, 0, none⟩ (.slice A5 (L ++ [p]).length c5)) := ⟨by
                      have hw4 := HRJ3.out.bel.trans (hU4.mono HRJ3.out.bel.size)
                      exact Below.setCell (hw4.trans (hb5.mono (by rw [HG.out]; omega))) (by rw [HG.out]; exact Nat.le_refl _) _, _, hv4.set_ hb5 ho5⟩
                    have HFIN := Lib.hid hfin
                    generalize U5.setCell ⟨g, 0, none⟩ (.slice A5 (L ++ [p]).length c5) = UF at *
                    clear hfin hc5 hrun5 hap5 hb5 ho5 hv4 hrn hU0 hU1 hU2 hU3 hU4 hbk
                    simp only [Act.put, List.setIfInBounds_toArray, List.set_cons_succ, List.set_cons_zero]
                    refine wpAnyH_done (by kernel_rfl) ?_ _
                    go_wp2_with fail
                    go_roundw
                    case rel => exact ⟨j + 1, HLJ.out, by go_num, by rw [HSUC.out]; exact HFIN.out⟩
                    case measure => have := HLJ.out; simp [intOf]; omega
        · obtain rfl : j = 16 := by omega
          have p1 : ¬ ((16 : Nat) : Int) < 16 := by decide
          rw [← rawL_succ] at hrj
          have HRJ := Lib.hid hrj
          clear hrj hj hlj
          go_wp2_with fail
          go_roundw
          case rel => exact ⟨k + 1, HLT.out, by go_num, HRJ.out⟩
          case measure => have := HLT.out; simp [intOf]; omega
    · obtain rfl : k = m := by omega
      have q1 : ¬ (k : Int) < (k : Int) := by omega
      obtain ⟨v, hv⟩ := hrk.at_
      have HB := Lib.hid hrk.bel
      have hLN := rawL_len k
      clear hrk hlt hk
      by_cases h0 : k = 0
      · subst h0
        obtain ⟨AL, cL, rfl, _, _, _⟩ := hv.own.rd
        have c0 := hv.rowC
        rw [show (rawL 0).length = 0 from rfl] at c0
        have HV := Lib.hid hv
        clear hv hLN
        go_wp2_with (go_at_call 15; (refine (sort0_c AL cL _ _).mono ?_); rintro e w1 ⟨rfl, rfl⟩)
        go_ret
        exact ⟨[], _, by rw [HG.out]; first | done | rfl, by simp [SortR], List.Perm.refl _, by rw [← HG.out]; exact HV.out, HB.out⟩
      · obtain ⟨gl, cap, rest, rfl, hbl, hgl, hbk, hmk⟩ := hv.own.forms (by omega)
        have c0 := hv.rowC
        have HV := Lib.hid hv
        have HSC := Lib.hid (sortT_c gl cap (rawL k) rest wr hbk (by omega))
        have HMK := Lib.hid hmk
        have HBL := Lib.hid hbl
        clear hv hbk hmk hgl hbl hLN
        generalize hLe : rawL k = L at *
        have HLE := Lib.hid hLe
        clear hLe
        go_wp2_with (go_at_call 15; (with_reducible refine HSC.out.mono ?_); rintro e w1 ⟨rfl, d', hp, hs, hb', ho⟩; have HP := Lib.hid hp; have HS := Lib.hid hs; have HBK := Lib.hid hb'; have HO := Lib.hid ho; clear hp hs hb' ho)
        go_ret
        obtain ⟨s1, s2⟩ := sorted_pts HP.out HS.out
        have hgb : gl ≠ g := by have := HBL.out; omega
        refine ⟨d'.toList, .slice (some ⟨gl, 0, none⟩) L.length cap, by rw [HG.out]; first | done | rfl, s1, by rw [HLE.out]; exact s2, ?_, ?_⟩
        · rw [← HG.out]
          refine ⟨(HO.out.block g HV.out.blk.lt (fun e => hgb e.symm)).trans HV.out.blk, ?_⟩
          exact HMK.out w1 d'.toList s2.length_eq HBK.out
        · exact HB.out.trans (HO.out.below (fun i hi => by rw [hi]; have := HBL.out; rw [HG.out] at this; omega) HB.out.size)
end Go.Proofs.YtbgnjjbmidkhlaaDoor
/- Codes: the contract. -/
namespace Go.Proofs.YtbgnjjbmidkhlaaDoor
set_option linter.unusedVariables false
set_option linter.unusedSimpArgs false
open Go.RowKit
set_option linter.unusedVariables false
set_option linter.unusedSimpArgs false
def zk64 : Array Value := vb (List.replicate 64 0)
theorem u8_xor_nat (x c : Nat) (hx : x < 256) (hc : c < 256) : Go.bits BinOp.xor IntKind.u8 (x : Int) (c : Int) = ((x ^^^ c : Nat) : Int) := by
  show IntKind.wrap IntKind.u8 ((BitVec.ofInt 8 (x : Int) ^^^ BitVec.ofInt 8 (c : Int)).toNat : Int) = _
  rw [BitVec.ofInt_natCast, BitVec.ofInt_natCast, BitVec.toNat_xor, BitVec.toNat_ofNat, BitVec.toNat_ofNat, Nat.mod_eq_of_lt hx, Nat.mod_eq_of_lt hc, IntKind.wrap_u8]
  have : x ^^^ c < 2 ^ 8 := Nat.xor_lt_two_pow hx hc
  omega
/-- bytes turned as far as they are -/
def xrTo (b : Nat) (L : List Nat) (k : Nat) : List Nat := xr b (L.take k) ++ L.drop k
theorem xrTo_zero (b : Nat) (L : List Nat) : xrTo b L 0 = L := by simp [xrTo, xr]
theorem xrTo_end (b : Nat) (L : List Nat) (n : Nat) (h : L.length = n) : xrTo b L n = xr b L := by subst h; simp [xrTo]
theorem xr_len (b : Nat) (L : List Nat) : (xr b L).length = L.length := by simp [xr]
theorem xrTo_len (b : Nat) (L : List Nat) (k : Nat) (h : k ≤ L.length) : (xrTo b L k).length = L.length := by simp [xrTo, xr_len]; omega
theorem xrTo_at (b : Nat) (L : List Nat) (k : Nat) (h : k < L.length) : (xrTo b L k).getD k 0 = L.getD k 0 := by
  have h1 : (xr b (L.take k)).length = k := by rw [xr_len, List.length_take]; omega
  rw [xrTo, List.getD_eq_getElem?_getD, List.getD_eq_getElem?_getD, List.getElem?_append_right (by omega), h1, Nat.sub_self, List.getElem?_drop, Nat.add_zero]
theorem xrTo_set (b : Nat) (L : List Nat) (k : Nat) (h : k < L.length) : (xrTo b L k).set k (L.getD k 0 ^^^ b) = xrTo b L (k + 1) := by
  have h1 : (xr b (L.take k)).length = k := by rw [xr_len, List.length_take]; omega
  have h2 : L.drop k = L.getD k 0 :: L.drop (k + 1) := by
    rw [List.drop_eq_getElem_cons h, List.getD_eq_getElem?_getD, List.getElem?_eq_getElem h]; rfl
  have h3 : xr b (L.take (k + 1)) = xr b (L.take k) ++ [L.getD k 0 ^^^ b] := by
    unfold xr
    rw [List.take_add_one, List.getElem?_eq_getElem h, List.map_append, List.getD_eq_getElem?_getD, List.getElem?_eq_getElem h]
    rfl
  rw [xrTo, List.set_append_right _ _ (by omega), h1, Nat.sub_self, h2, List.set_cons_zero, xrTo, h3, List.append_assoc]
  rfl
theorem xr_lt {b : Nat} (hb : b < 256) {L : List Nat} (h : ∀ c ∈ L, c < 256) : ∀ c ∈ xr b L, c < 256 := by
  intro c hc
  obtain ⟨d, hd, rfl⟩ := List.mem_map.1 hc
  have : d ^^^ b < 2 ^ 8 := Nat.xor_lt_two_pow (h d hd) hb
  omega
theorem fill64_lt {k : List Nat} (h : ∀ c ∈ k, c < 256) : ∀ c ∈ fill64 k, c < 256 := by
  intro c hc
  rcases List.mem_append.1 hc with hc | hc
  · exact h c hc
  · rw [List.eq_of_mem_replicate hc]; decide
end Go.Proofs.YtbgnjjbmidkhlaaDoor
/- Codes: the contract of Mac. -/
namespace Go.Proofs.YtbgnjjbmidkhlaaDoor
set_option linter.unusedVariables false
set_option linter.unusedSimpArgs false
open Go.RowKit
set_option linter.unusedVariables false
set_option linter.unusedSimpArgs false
end Go.Proofs.YtbgnjjbmidkhlaaDoor
/- Codes: the document's contract. -/
namespace Go.Proofs.YtbgnjjbmidkhlaaDoor
set_option linter.unusedVariables false
set_option linter.unusedSimpArgs false
open Go.RowKit
set_option linter.unusedVariables false
set_option linter.unusedSimpArgs false
def Sep (u v : Value) : Prop := ∀ g, u.ownBlock = some g → v.ownBlock ≠ some g
theorem own_base_le {w : World} {base base' : Nat} {e : TypeId} {size n : Nat} {v : Value} {xs : List Value} (h : w.ownsRow base e size v n xs) (hb : base' ≤ base) : w.ownsRow base' e size v n xs :=
  ⟨h.1, h.2.elim Or.inl (fun ⟨g, cap, cur, hv, hg, r⟩ => Or.inr ⟨g, cap, cur, hv, Nat.le_trans hb hg, r⟩)⟩
theorem Sep.symm {u v : Value} (h : Sep u v) : Sep v u := fun g h1 h2 => h g h2 h1
/-- two rows of bytes, apart -/
structure Own2 (w : World) (base : Nat) (a : Value) (la : List Nat) (b : Value) (lb : List Nat) : Prop where
  oa : OwnB w base a la
  ob : OwnB w base b lb
  ab : Sep a b
theorem Own2.rot {w : World} {base : Nat} {a b : Value} {la lb : List Nat} (h : Own2 w base a la b lb) : Own2 w base b lb a la := ⟨h.ob, h.oa, h.ab.symm⟩
theorem Own2.alloc {w : World} {base : Nat} {a b : Value} {la lb : List Nat} (h : Own2 w base a la b lb) (o : Obj) : Own2 (w.alloc o) base a la b lb := ⟨h.oa.alloc o, h.ob.alloc o, h.ab⟩
theorem Own2.keep {w w' : World} {base : Nat} {a b : Value} {la lb : List Nat} (h : Own2 w base a la b lb) (hb : Below w.heap.size w w') : Own2 w' base a la b lb := ⟨h.oa.next hb, h.ob.next hb, h.ab⟩
theorem Own2.app {w w' : World} {base : Nat} {a b a' : Value} {la lb new : List Nat} (h : Own2 w base a la b lb) (hap : Apped w base 5 1 a w' a' (la.length + new.length) (byt la ++ byt new)) : Own2 w' base a' (la ++ new) b lb := by
  have ho : Only (fun k => a.ownBlock = some k) w w' := hap.only (fun g h => h)
  refine ⟨OwnB.app hap, own_keep h.ob ho (fun g h1 h2 => h.ab g h2 h1), ?_⟩
  intro g hg hg2
  rcases hap.lies with h1 | h1
  · exact h.ab g (h1 ▸ hg) hg2
  · rw [h1] at hg
    injection hg with hg
    have := own_lt h.ob g hg2
    omega
theorem Own2.snoc {w w' : World} {base : Nat} {a b a' : Value} {la lb : List Nat} {c : Nat} (h : Own2 w base a la b lb) (hap : Apped w base 5 1 a w' a' (la.length + 1) (byt la ++ [.int .u8 (c : Nat)])) : Own2 w' base a' (la ++ [c]) b lb := h.app (new := [c]) hap
theorem Own2.nil_ (w : World) (base : Nat) : Own2 w base (.slice none 0 0) [] (.slice none 0 0) [] := ⟨OwnB.nil_ _ _, OwnB.nil_ _ _, fun g h => by cases h⟩
theorem xr_take_succ (b : Nat) (F : List Nat) (i : Nat) (h : i < F.length) : xr b (F.take (i + 1)) = xr b (F.take i) ++ [F.getD i 0 ^^^ b] := by
  unfold xr
  rw [List.take_add_one, List.getElem?_eq_getElem h, List.map_append, List.getD_eq_getElem?_getD, List.getElem?_eq_getElem h]
  rfl
theorem fill64_at (k : List Nat) (i : Nat) (h : i < k.length) : (fill64 k).getD i 0 = k.getD i 0 := by
  unfold fill64
  rw [List.getD_eq_getElem?_getD, List.getElem?_append_left h, List.getD_eq_getElem?_getD]
theorem fill64_far (k : List Nat) (i : Nat) (h : ¬ i < k.length) : (fill64 k).getD i 0 = 0 := by
  unfold fill64
  rw [List.getD_eq_getElem?_getD, List.getElem?_append_right (by omega), List.getElem?_replicate]
  split <;> rfl
end Go.Proofs.YtbgnjjbmidkhlaaDoor
/- Contract: the document's example of codes. -/
namespace Go.Proofs.YtbgnjjbmidkhlaaDoor
set_option linter.unusedVariables false
set_option linter.unusedSimpArgs false
open Go.RowKit
set_option linter.unusedVariables false
set_option linter.unusedSimpArgs false
def keyL : List Nat := [107, 101, 121]
def foxL : List Nat := [84, 104, 101, 32, 113, 117, 105, 99, 107, 32, 98, 114, 111, 119, 110, 32, 102, 111, 120, 32, 106, 117, 109, 112, 115, 32, 111, 118, 101, 114, 32, 116, 104, 101, 32, 108, 97, 122, 121, 32, 100, 111, 103]
def foxM : List Nat := [247, 188, 131, 244, 48, 83, 132, 36, 177, 50, 152, 230, 170, 111, 177, 67, 239, 77, 89, 161, 73, 70, 23, 89, 151, 71, 157, 188, 45, 26, 60, 216]
end Go.Proofs.YtbgnjjbmidkhlaaDoor
/- Keys expanded: plain; how a row lives on. -/
namespace Go.Proofs.YtbgnjjbmidkhlaaDoor
set_option linter.unusedVariables false
set_option linter.unusedSimpArgs false
open Go.RowKit
set_option linter.unusedVariables false
set_option linter.unusedSimpArgs false
/-- a key expanded -/
def expd (k info : List Nat) (n : Nat) : List Nat := (exN k info ((n + 31) / 32)).take n
theorem expd_len (k info : List Nat) (n : Nat) : (expd k info n).length = n := by unfold expd; rw [List.length_take, exN_len]; omega
theorem exT_lt (k info : List Nat) (i : Nat) : ∀ c ∈ exT k info i, c < 256 := by
  cases i with
  | zero => intro c hc; cases hc
  | succ i => exact mac_lt _ _
theorem exT_len2 (k info : List Nat) (i : Nat) : (exT k info i).length ≤ 32 := by
  cases i with
  | zero => exact Nat.zero_le _
  | succ i => rw [exT_len]; exact Nat.le_refl _
theorem exN_lt (k info : List Nat) (i : Nat) : ∀ c ∈ exN k info i, c < 256 := by
  induction i with
  | zero => intro c hc; cases hc
  | succ i ih =>
    intro c hc
    rcases List.mem_append.1 hc with h | h
    · exact ih c h
    · exact exT_lt k info (i + 1) c h
theorem expd_lt (k info : List Nat) (n : Nat) : ∀ c ∈ expd k info n, c < 256 := fun c hc => exN_lt k info _ c (List.mem_of_mem_take hc)
theorem exN_take (k info : List Nat) (a j : Nat) : (exN k info (a + j)).take (32 * a) = exN k info a := by
  induction j with
  | zero => rw [Nat.add_zero]; exact List.take_of_length_le (by rw [exN_len]; exact Nat.le_refl _)
  | succ j ih =>
    rw [show a + (j + 1) = (a + j) + 1 by omega, exN, List.take_append_of_le_length (by rw [exN_len]; omega), ih]
theorem expd_take (k info : List Nat) (m n : Nat) (h : m ≤ n) : (expd k info n).take m = expd k info m := by
  unfold expd
  rw [List.take_take, Nat.min_eq_left h]
  obtain ⟨j, hj⟩ : ∃ j, (n + 31) / 32 = (m + 31) / 32 + j := ⟨(n + 31) / 32 - (m + 31) / 32, by omega⟩
  rw [hj]
  have h1 := exN_take k info ((m + 31) / 32) j
  rw [← h1, List.take_take, Nat.min_eq_left (by omega)]
theorem exT_succ (k info : List Nat) (i : Nat) : exT k info (i + 1) = mac k (exT k info i ++ info ++ [(i + 1) % 256]) := rfl
theorem exN_succ (k info : List Nat) (i : Nat) : exN k info (i + 1) = exN k info i ++ exT k info (i + 1) := rfl
/-- a block that an append didn't touch -/
theorem blk_apped {w w' : World} {base : Nat} {e : TypeId} {size n n0 : Nat} {v v' : Value} {xs xs0 : List Value} {g : Nat} {t : TypeId} {cs : Array Value} (hb : Blk w g t cs) (hap : Apped w base e size v w' v' n xs) (hne : ∀ k, v.ownBlock = some k → k ≠ g) : Blk w' g t cs := by
  have ho : Only (fun k => v.ownBlock = some k) w w' := hap.only (fun g h => h)
  exact (ho.block g hb.lt (fun h => hne g h rfl)).trans hb
end Go.Proofs.YtbgnjjbmidkhlaaDoor
/- ShaSums: the walk. -/
namespace Go.Proofs.YtbgnjjbmidkhlaaDoor
set_option linter.unusedVariables false
set_option linter.unusedSimpArgs false
open Go.RowKit
set_option linter.unusedVariables false
set_option linter.unusedSimpArgs false
theorem rangeAt_blk {w : World} {g : Nat} {T : TypeId} {cs : Array Value} (h : Blk w g T cs) : w.rangeAt g 0 cs.toList := fun i u hu => by
  rw [Nat.zero_add, h.cell i]
  simpa using hu
end Go.Proofs.YtbgnjjbmidkhlaaDoor
/- HkdfMacs: the walk. -/
namespace Go.Proofs.YtbgnjjbmidkhlaaDoor
set_option linter.unusedVariables false
set_option linter.unusedSimpArgs false
open Go.RowKit
set_option linter.unusedVariables false
set_option linter.unusedSimpArgs false
theorem below_row {n g : Nat} {w W : World} (h : Below n w W) (hn : n ≤ g) (cs : Array Value) : Below n w (W.setRow g cs) :=
  h.trans ⟨rfl, rfl, rfl, by simp [World.setRow], fun i hi => setRow_other _ _ i _ (by omega)⟩
end Go.Proofs.YtbgnjjbmidkhlaaDoor
/- Contract: a key expanded. -/
namespace Go.Proofs.YtbgnjjbmidkhlaaDoor
set_option linter.unusedVariables false
set_option linter.unusedSimpArgs false
open Go.RowKit
set_option linter.unusedVariables false
set_option linter.unusedSimpArgs false
end Go.Proofs.YtbgnjjbmidkhlaaDoor
/- Contract: a key expanded by the document. -/
namespace Go.Proofs.YtbgnjjbmidkhlaaDoor
set_option linter.unusedVariables false
set_option linter.unusedSimpArgs false
open Go.RowKit
set_option linter.unusedVariables false
set_option linter.unusedSimpArgs false
end Go.Proofs.YtbgnjjbmidkhlaaDoor
/- A text's bytes, and one byte more. -/
namespace Go.Proofs.YtbgnjjbmidkhlaaDoor
set_option linter.unusedVariables false
set_option linter.unusedSimpArgs false
open Go.RowKit
set_option linter.unusedVariables false
set_option linter.unusedSimpArgs false
/-- a row that a text was turned into: its last place but one is marked -/
def MarkAt (w : World) (g cap : Nat) (s : List Nat) : Prop := ∃ cur : Array Value, w.heap[g]? = some (.cells cur 5 (cur.size, cur.size + 1)) ∧ cur.size = cap ∧ s.length ≤ cap ∧ cap ≤ maxLen ∧ ∀ j, j < s.length → cur[j]? = some (.int .u8 (s.getD j 0 : Nat))
theorem MarkAt.next {w w' : World} {g cap : Nat} {s : List Nat} (h : MarkAt w g cap s) (hb : Below w.heap.size w w') : MarkAt w' g cap s := by
  obtain ⟨cur, hg, r⟩ := h
  refine ⟨cur, ?_, r⟩
  have hlt : g < w.heap.size := (Array.getElem?_eq_some_iff.1 hg).1
  rw [hb.block g hlt]; exact hg
theorem conv_str (w : World) (s : List Nat) (hs : ∀ c ∈ s, c < 256) (hl : s.length ≤ 10000) : ∃ cap W', (convert 9 36 (.string (bstr s))).run Tryd.prog w = .ok (.slice (some ⟨w.heap.size, 0, none⟩) s.length cap) W' ∧ MarkAt W' w.heap.size cap s ∧ Below w.heap.size w W' := by
  have h1 := Lib.run_convert_string_bytes (P := Tryd.prog) w 9 36 5 (bstr s) Tryd.underlying9 Tryd.underlying36 Tryd.underlying5
  rw [bstr_size] at h1
  have hsz : (bstr s).size = s.length := bstr_size s
  have hcap : s.length ≤ grownCap w s.length 0 5 := grownCap_ge w s.length 0 5
  have hmax : grownCap w s.length 0 5 ≤ maxLen := grownCap_le_maxLen w s.length 0 5 (by simp [maxLen]; omega)
  have hcs : (Lib.bytesCells w 5 (bstr s)).size = grownCap w s.length 0 5 := by
    unfold Lib.bytesCells
    rw [Array.size_append, Array.size_map, Array.size_replicate, hsz]
    have : (bstr s).data.size = s.length := hsz
    omega
  refine ⟨_, _, h1, ⟨Lib.bytesCells w 5 (bstr s), Lib.bytesWorld_at_new w 5 (bstr s), hcs, hcap, hmax, fun j hj => ?_⟩, ?_⟩
  · have hb := hs _ (List.getElem_mem hj)
    unfold Lib.bytesCells
    rw [Array.getElem?_append_left (by rw [Array.size_map]; show j < (bstr s).size; rw [hsz]; exact hj)]
    simp [bstr, hj, List.getD_eq_getElem?_getD]
    omega
  · refine ⟨?_, ?_, ?_, ?_, ?_⟩
    · rfl
    · rfl
    · rfl
    · rw [Lib.bytesWorld_size]; omega
    · intro i hi
      exact Lib.bytesWorld_at_old w 5 (bstr s) i hi
/-- one byte more -/
theorem app_mark (w : World) (g cap B : Nat) (s : List Nat) (c : Nat) (ty : TypeId) (A : Option Addr) (ca : Nat) (Bs : Nat) (hm : MarkAt w g cap s) (hB : B ≤ g) (hs : s.length ≤ 10000) (hr : Rd w Bs A (byt [c])) :
    ∃ v' w', (Builtin.append_ #[36, 36] ty #[.slice (some ⟨g, 0, none⟩) s.length cap, .slice A 1 ca]).run Tryd.prog w = .ok v' w' ∧ (∃ A' c', v' = .slice A' (s.length + 1) c' ∧ Rd w' w'.heap.size A' (byt (s ++ [c]))) ∧ Below B w w' := by
  obtain ⟨i0, hi, hz0, hz1, hz2⟩ := info_parts byteInfo
  obtain ⟨ad, rfl, _, hc⟩ := hr (by simp [byt])
  obtain ⟨cur, hg, hcs, hle, hmx, hcur⟩ := hm
  have hlt : g < w.heap.size := (Array.getElem?_eq_some_iff.1 hg).1
  have hcell : ∀ j, j < s.length → w.cell? ⟨g, j, none⟩ = some (.int .u8 (s.getD j 0 : Nat)) := fun j hj => by
    simp only [World.cell?, hg]
    exact hcur j hj
  by_cases hroom : s.length + 1 ≤ cap
  · have hcn : (w.cell? ⟨g, s.length, none⟩).isSome = true := by
      simp only [World.cell?, hg]
      simp; omega
    have hfz : w.frozen? ⟨g, s.length, none⟩ = false := by
      simp [World.frozen?, hg]; omega
    have hf := run_firstCells_some (P := Tryd.prog) w i0.size 1 ad 1 ca (byt [c]) (by rw [hz1]; rfl) hc
    have hst := run_storeCells_cells (P := Tryd.prog) g s.length (byt [c]) 0 w (fun j hj => by
      have : j = 0 := by simp [byt] at hj; exact hj
      subst this; exact hcn) (fun j hj => by
      have : j = 0 := by simp [byt] at hj; exact hj
      subst this; exact hfz) (byt_one [c])
    rw [Nat.add_zero] at hst
    rw [hz1] at hf
    refine ⟨.slice (some ⟨g, 0, none⟩) (s.length + 1) cap, w.setCell ⟨g, s.length, none⟩ (.int .u8 (c : Nat)), ?_, ⟨_, _, rfl, ?_⟩, ?_⟩
    · have hst' : (storeCells ⟨g, s.length, none⟩ (byt [c])).run Tryd.prog w = .ok () (w.setCell ⟨g, s.length, none⟩ (.int .u8 (c : Nat))) := hst
      simp [Builtin.append_, run_underlying Tryd.underlying36, sizeOf, typeInfo, hi, Builtin.lenOf, hroom, hf, Addr.add_lit, hst', hz1]
    · intro _
      refine ⟨_, rfl, by simpa using hlt, fun j u hu => ?_⟩
      have hj : j < s.length + 1 := by
        rcases Nat.lt_or_ge j (s.length + 1) with h1 | h1
        · exact h1
        · rw [List.getElem?_eq_none (by rw [byt_len, List.length_append]; exact h1)] at hu; cases hu
      rw [Addr.add_mid, Nat.zero_add]
      rcases Nat.lt_or_ge j s.length with h1 | h1
      · rw [World.cell?_setCell_other _ _ _ _ (by simp <;> omega), hcell j h1, ← hu, byt_at (by rw [List.length_append]; omega)]
        congr 3
        rw [List.getD_eq_getElem?_getD, List.getD_eq_getElem?_getD, List.getElem?_append_left h1]
      · obtain rfl : j = s.length := by omega
        obtain ⟨u0, hu0⟩ := Option.isSome_iff_exists.1 hcn
        rw [World.cell?_setCell_same _ _ _ hu0, ← hu, byt_at (by rw [List.length_append]; omega)]
        congr 3
        rw [List.getD_eq_getElem?_getD, List.getElem?_append_right (Nat.le_refl _), Nat.sub_self]
        rfl
    · exact (Below.refl _ _).setCell hB _
  · have h1 := run_append_grow (P := Tryd.prog) w 36 ty 5 i0 _ Tryd.underlying36 hi hz0 ⟨g, 0, none⟩ s.length cap (byt s) (by rw [hz1, byt_len, Nat.mul_one]) (fun j v hv => by
        have hj : j < s.length := by
          rcases Nat.lt_or_ge j s.length with h1 | h1
          · exact h1
          · rw [List.getElem?_eq_none (by rw [byt_len]; exact h1)] at hv; cases hv
        rw [Addr.add_mid, Nat.zero_add, hcell j hj, ← hv, byt_at hj]) ad 1 ca (byt [c]) (by rw [hz1]; rfl) hc (by omega) (by omega) (growslice_fits (by omega) (by rw [hz2]; omega))
    refine ⟨_, _, h1, ⟨_, _, rfl, ?_⟩, ?_⟩
    · have hb := Blk.new w.drew 5 ((byt s).toArray ++ (byt [c]).toArray ++ Builtin.zeroCells (Value.int .u8 0).cells (grownCap w (s.length + 1) cap 5 - (s.length + 1)))
      exact (rd_blk hb (byt (s ++ [c])) (s.length + 1) (by
        rw [Array.toList_append, Array.toList_append, List.toList_toArray, List.toList_toArray, List.take_append_of_le_length (by simp [byt]), byt_app, List.take_of_length_le (by simp [byt])])).more hb.lt
    · exact (Below.refl _ _).drew.alloc (Nat.le_trans hB (Nat.le_of_lt hlt)) _
end Go.Proofs.YtbgnjjbmidkhlaaDoor
/- Contract: (*ring.Ring).Nodes. -/
namespace Go.Proofs.YtbgnjjbmidkhlaaDoor
set_option linter.unusedVariables false
set_option linter.unusedSimpArgs false
set_option maxRecDepth 100000
open Go.RowKit
set_option linter.unusedVariables false
set_option linter.unusedSimpArgs false
section
variable {P : Program} {ops : Array Oper} {w : World} {Q : Act → Prop} {a : Act} {o : Oper} {rest : List Oper}
theorem wpStill_loadT (ty : TypeId) (x : Operand) (ho : o.op = .load ty x) (b off : Nat) (hx : a.eval x = .pointer (some ⟨b, off, none⟩))
    (cs : List Value) (d : TypeDesc) (hc : w.rangeAt b off cs) (hu : P.underlying ty = some d) (hd : d.isRow = true) (hi : (P.info? ty).map (·.size) = some cs.length) (hw : Region.wanted o (yielded ops a.tmps) = true)
    (a' : Act) (ha : a.put o.dst (.agg cs.toArray) = a') (h : wpStill P ops w Q rest a') : wpStill P ops w Q (o :: rest) a := by
  refine wpStill_step fun K hK => ?_
  rw [if_pos hw]
  have hrun : (execOp a.eval o).run P w = .ok (.value (.agg cs.toArray)) w := by
    unfold execOp
    simp only [ho, hx, Instr.loadAt, Instr.sureAddr, Sem.run_bind, Sem.run_pure, Result.andThen_ok, run_loadVar_mid w b off ty cs d hc hu hd hi]
  unfold Oper.still
  rw [hrun, Oper.stillUpon_value, ha]
  exact hK _ h
end
theorem ext_rangeR {w0 : World} {b off : Nat} {cs : List Value} (h : w0.rangeAt b off cs) : ∀ w, (∃ x : Ext w0, w = x.wd) → w.rangeAt b off cs := by
  rintro _ ⟨x, rfl⟩ j u hu
  exact x.cell (h j u hu)
theorem quiet_loadT {P : Program} {C : World → Prop} {a : Act} {o : Oper} {K : Act → Prop} (ty : TypeId) (x : Operand) (ho : o.op = .load ty x) (b off : Nat) (hx : a.eval x = .pointer (some ⟨b, off, none⟩))
    (l : List Value) (d : TypeDesc) (hC : ∀ w, C w → w.rangeAt b off l) (hu : P.underlying ty = some d) (hd : d.isRow = true) (hi : (P.info? ty).map (·.size) = some l.length)
    (a' : Act) (ha : a.put o.dst (.agg l.toArray) = a') (h : K a') : o.quiet P a C K :=
  ⟨.agg l.toArray, fun w hw' => by
    unfold Oper.quietAt execOp
    simp only [ho, hx, Instr.loadAt, Instr.sureAddr, Sem.run_bind, Sem.run_pure, Result.andThen_ok, run_loadVar_mid w b off ty l d (hC w hw') hu hd hi]
    exact ⟨rfl, rfl⟩, by rw [ha]; exact h⟩
theorem run_lenR {P : Program} {o : Oper} {ρ : Operand → Value} (s : Operand) (T : TypeId) {e : TypeId} (ht : P.underlying T = some (.slice e)) {A : Option Addr} {n c : Nat} (ho : o.op = .call { callee := .builtin .len, args := #[s], argTypes := #[T] }) (hs : ρ s = .slice A n c) (x : World) :
    (execOp ρ o).run P x = .ok (.value (.int .i64 (n : Nat))) x := by
  unfold execOp
  simp only [ho, resolve, invoke, builtin, Sem.run_bind, Sem.run_pure, Result.andThen_ok, List.map_toArray, List.map_cons, List.map_nil, hs]
  simp [Builtin.len_, run_underlying ht, goInt]
theorem anyH_runR {P : Program} {ops : Array Oper} {md : Region.Mode} {S : World → Prop} {Q : Exit → Act → World → Prop} (i : Nat) {oi : Oper} {fuel : Nat} {listed : Array Bool} {a : Act} {w : World} (hi : ops[i]? = some oi) (v : Value) (hr : ∀ w, (execOp a.eval oi).run P w = .ok (.value v) w)
    (hs : Region.noSelect ops = true) (hf : Region.free md ops listed i = true) (hrd : (Region.ready md ops listed).contains i = true)
    (hQ : ∀ c a w, Q (.panic c) (a.put oi.dst v) w → Q (.panic c) a w) (hw : Region.wanted oi (yielded ops a.tmps) = true) (hS : S w)
    (a' : Act) (ha : a.put oi.dst v = a') (h : wpAnyH P md ops Q S fuel (listed.setIfInBounds i true) a' w) : wpAnyH P md ops Q S (fuel + 1) listed a w :=
  wpAnyH_take hi hs hf hrd hQ (.inl ⟨hw, fun w' _ => hr w'⟩) hS (by rw [ha]; exact h)
theorem run_allocT {o : Oper} {ρ : Operand → Value} (w : World) (ho : o.op = .alloc 44) : (execOp ρ o).run Tryd.prog w = .ok (.value (.pointer (some ⟨w.heap.size, 0, none⟩))) (w.alloc (.cells zT 44)) := by
  unfold execOp
  simp [ho, Instr.alloc, zero_pt, newVar, newRow, Value.cells]
  rfl
theorem run_oneI (w : World) (n : Nat) {o : Oper} {ρ : Operand → Value} (x : Operand) (ho : o.op = .buildSlice 25 1 #[(0, x)]) (hx : ρ x = .int .i64 (n : Int)) :
    (execOp ρ o).run Tryd.prog w = .ok (.value (.slice (some ⟨w.heap.size, 0, none⟩) 1 1)) (w.alloc (.cells (its [n]).toArray 3)) :=
  run_ints w [(n : Int)] #[(0, x)] ho (by simp [hx, ints]) (by simp) (by simp)
theorem there_blk {w : World} {g : Nat} {T : TypeId} {cs : Array Value} (h : Blk w g T cs) (n : Nat) (hn : n ≤ cs.size) : w.there g 0 n := fun j hj => by
  have h' : w.heap[g]? = some (.cells cs T (0, 0)) := h
  refine ⟨?_, ?_⟩
  · rw [h.cell, Array.getElem?_eq_getElem (by omega)]; rfl
  · unfold World.frozen?; simp [h']
theorem new_rowT (W : World) (T : TypeId) (old cs : Array Value) : Blk ((W.alloc (Obj.cells old T)).setRow W.heap.size cs) W.heap.size T cs ∧ Below W.heap.size W ((W.alloc (Obj.cells old T)).setRow W.heap.size cs) :=
  ⟨setRow_heap _ _ _ _ _ (0, 0) (Blk.new W _ _), below_row ((Below.refl _ _).alloc (Nat.le_refl _) _) (Nat.le_refl _) _⟩
theorem MarkAt.rdR {w : World} {g cap : Nat} {s : List Nat} (h : MarkAt w g cap s) : Rd w w.heap.size (some ⟨g, 0, none⟩) (byt s) := fun _ => by
  obtain ⟨cur, hg, h1, h2, h3, h4⟩ := h
  have hlt : g < w.heap.size := (Array.getElem?_eq_some_iff.1 hg).1
  refine ⟨_, rfl, hlt, fun j u hu => ?_⟩
  have hj : j < s.length := by
    rcases Nat.lt_or_ge j s.length with h5 | h5
    · exact h5
    · rw [List.getElem?_eq_none (by rw [byt_len]; exact h5)] at hu; cases hu
  rw [Addr.add_mid, Nat.zero_add]
  rw [byt_at hj] at hu
  cases hu
  exact cellOf hg (h4 j hj)
theorem atA_pts {w : World} {g : Nat} {T : TypeId} {l : List Pt} {rest : List Value} (h : Blk w g T (pts l ++ rest).toArray) : AtA w ⟨g, 0, none⟩ (pts l) := fun j v hv => by
  rw [Addr.add_mid, Nat.zero_add]
  refine (h.cell j).trans ?_
  have hj : j < (pts l).length := (List.getElem?_eq_some_iff.1 hv).1
  rw [← hv, List.getElem?_toArray, List.getElem?_append_left hj]
theorem range_pt {w : World} {g k : Nat} {T : TypeId} {l : List Pt} {rest : List Value} (h : Blk w g T (pts l ++ rest).toArray) (hk : k < l.length) : w.rangeAt g (k * 2) (ptL (l.getD k pt0)) := fun j u hu => by
  have h1 := (atA_pts h).point k hk j u hu
  rw [Addr.add_mid, Nat.zero_add, ] at h1
  have e : ((⟨g, k * 2, none⟩ : Addr).add j) = ⟨g, k * 2 + j, none⟩ := Addr.add_mid ..
  rw [← e]
  exact h1
theorem run_convR {o : Oper} {ρ : Operand → Value} {w w' : World} {t1 t2 : TypeId} {x : Operand} {v u : Value} (ho : o.op = .convert t1 t2 x) (hx : ρ x = v) (hrun : (convert t1 t2 v).run Tryd.prog w = .ok u w') : (execOp ρ o).run Tryd.prog w = .ok (.value u) w' := by
  unfold execOp
  simp only [ho, hx, Sem.run_bind, hrun, Result.andThen_ok]
  rfl
/-- a place of a series: its text -/
def mkS (t s : List Nat) : List Nat := [83] ++ (t ++ ([0] ++ s))
def atS (t s : List Nat) : Nat := number ((sha (mkS t s)).take 8)
theorem mkS_lt {t s : List Nat} (ht : ∀ c ∈ t, c < 256) (hs : ∀ c ∈ s, c < 256) : ∀ c ∈ mkS t s, c < 256 := fun c hc => by
  unfold mkS at hc
  rcases List.mem_append.1 hc with h | h
  · rw [List.mem_singleton.1 h]; decide
  · rcases List.mem_append.1 h with h | h
    · exact ht c h
    · rcases List.mem_append.1 h with h | h
      · rw [List.mem_singleton.1 h]; decide
      · exact hs c h
theorem rot_get {at_ : Nat} {L : List Pt} {k : Nat} (hk : k < L.length) : (rotL at_ L).getD k pt0 = L.getD ((fromL at_ L + k) % L.length) pt0 := by
  have hle : fromL at_ L ≤ L.length := List.countP_le_length
  unfold rotL
  generalize fromL at_ L = f at *
  rw [List.getD_eq_getElem?_getD, List.getD_eq_getElem?_getD]
  by_cases h : k < L.length - f
  · rw [List.getElem?_append_left (by rw [List.length_drop]; exact h), List.getElem?_drop, Nat.mod_eq_of_lt (by omega)]
  · rw [List.getElem?_append_right (by rw [List.length_drop]; omega), List.length_drop, List.getElem?_take_of_lt (by omega)]
    have e : (f + k) % L.length = k - (L.length - f) := by
      rw [Nat.mod_eq_sub_mod (by omega), Nat.mod_eq_of_lt (by omega)]
      omega
    rw [e]
theorem rot_len (at_ : Nat) (L : List Pt) : (rotL at_ L).length = L.length := by
  unfold rotL
  rw [List.length_append, List.length_drop, List.length_take]
  have : fromL at_ L ≤ L.length := List.countP_le_length
  omega
def NodesOk (w : World) (o : List Nat) (e : Ending) (w' : World) : Prop := ∃ A c, e = .returned (.slice A o.length c) ∧ o.length ≤ c ∧ RdI w' w'.heap.size A o ∧ Below w.heap.size w w'
set_option maxRecDepth 100000 in
theorem nodesN_c (t s : ByteArray) (w : World) : Calls Tryd.prog 10 #[.pointer none, .string t, .string s] w fun e w' => e = .returned (.slice none 0 0) ∧ w = w' := by
  go_enter Tryd.func10, Tryd.ntmps10
  go_wp2_with fail
  go_step3
  go_wp2_with fail
  try rw [Exit.noGoto_ret]
  go_ret
  exact ⟨rfl, rfl⟩
set_option maxRecDepth 100000 in
set_option maxHeartbeats 32000000 in
theorem nodes_c (g n : Nat) (L : List Pt) (v : Value) (t s : List Nat) (w : World) (hr : RAt w g L n v) (hS : SortR L) (hLl : L.length ≤ 1000) (ht : ∀ c ∈ t, c < 256) (hs : ∀ c ∈ s, c < 256) (htl : t.length ≤ 100) (hsl : s.length ≤ 100) (hR : RoundsAt w) :
    Calls Tryd.prog 10 #[.pointer (some ⟨g, 0, none⟩), .string (bstr t), .string (bstr s)] w (NodesOk w (firsts 3 [] (rotL (atS t s) L))) := by
  obtain ⟨i0, hi, hz0, hz1, hz2⟩ := int_parts
  have zf := zero_pt
  have zs1 : zT.size = 2 := by rfl
  have zs2 : ¬ zT = #[] := by intro h; have := congrArg Array.size h; rw [zs1] at this; cases this
  have HRR := Lib.hid hr
  have HSO := Lib.hid hS
  have HRO := Lib.hid hR
  have HT := Lib.hid ht
  have HS := Lib.hid hs
  have HML := Lib.hid (mkS_lt ht hs)
  have HMK := Lib.hid (show mkS t s = [83] ++ (t ++ ([0] ++ s)) from rfl)
  have HAS := Lib.hid (show atS t s = number ((sha (mkS t s)).take 8) from rfl)
  have HCT := Lib.hid (fun W => conv_str W t ht (by omega))
  have HCS := Lib.hid (fun W => conv_str W s hs (by omega))
  have HLL := Lib.hid hLl
  have HTL := Lib.hid htl
  have HSL := Lib.hid hsl
  clear hr hS ht hs hR hLl htl hsl
  generalize bstr t = tv at *
  generalize bstr s = sv at *
  generalize mkS t s = mk at *
  generalize atS t s = x at *
  go_enter Tryd.func10, Tryd.ntmps10
  go_wp2_with fail
  go_step3
  go_upto_region 4 with (first
    | (refine wpList_valM rfl _ _ (run_oneR w 83 _ rfl (by rfl)) ?_
       obtain ⟨W1, e1⟩ : ∃ W1, W1 = w.alloc (.cells (byt [83]).toArray 5) := ⟨_, rfl⟩
       rw [← e1]
       have B1 := Lib.hid (show Below w.heap.size w W1 by rw [e1]; exact (Below.refl _ _).alloc (Nat.le_refl _) _)
       have R1 := Lib.hid (show Rd W1 W1.heap.size (some ⟨w.heap.size, 0, none⟩) (byt [83]) by rw [e1]; exact Rd.more (rd_new w (byt [83]) _ (0, 0)) (by simp))
       obtain ⟨c2, W2, hc2, hm2, hb2⟩ := HCT.out W1
       have C2 := Lib.hid hc2
       have B2 := Lib.hid (B1.out.trans (hb2.mono B1.out.size))
       have R12 := Lib.hid ((Rd.below R1.out hb2).more hb2.size)
       have R2 := Lib.hid hm2.rdR
       clear e1 hc2 hm2 hb2)
    | (refine wpList_valM rfl _ _ (run_convR rfl rfl C2.out) ?_; clear C2 R1)
    | (refine wpList_valM rfl _ _ (run_oneR W2 0 _ rfl (by rfl)) ?_
       obtain ⟨W3, e3⟩ : ∃ W3, W3 = W2.alloc (.cells (byt [0]).toArray 5) := ⟨_, rfl⟩
       rw [← e3]
       have hb3 : Below W2.heap.size W2 W3 := by rw [e3]; exact (Below.refl _ _).alloc (Nat.le_refl _) _
       have B3 := Lib.hid (B2.out.trans (hb3.mono B2.out.size))
       have R13 := Lib.hid ((Rd.below R12.out hb3).more hb3.size)
       have R23 := Lib.hid ((Rd.below R2.out hb3).more hb3.size)
       have R3 := Lib.hid (show Rd W3 W3.heap.size (some ⟨W2.heap.size, 0, none⟩) (byt [0]) by rw [e3]; exact Rd.more (rd_new W2 (byt [0]) _ (0, 0)) (by simp))
       obtain ⟨c4, W4, hc4, hm4, hb4⟩ := HCS.out W3
       have C4 := Lib.hid hc4
       have B4 := Lib.hid (B3.out.trans (hb4.mono B3.out.size))
       have R14 := Lib.hid ((Rd.below R13.out hb4).more hb4.size)
       have R24 := Lib.hid ((Rd.below R23.out hb4).more hb4.size)
       have R34 := Lib.hid ((Rd.below R3.out hb4).more hb4.size)
       have R44 := Lib.hid hm4.rdR
       clear e3 hb3 hc4 hm4 hb4 R12 R2)
    | (refine wpList_valM rfl _ _ (run_convR rfl rfl C4.out) ?_; clear C4 R13 R23 R3)
    | (refine wpList_valM rfl _ _ (run_build4 W4 (some ⟨w.heap.size, 0, none⟩, 1, [83]) (some ⟨W1.heap.size, 0, none⟩, c2, t) (some ⟨W2.heap.size, 0, none⟩, 1, [0]) (some ⟨W3.heap.size, 0, none⟩, c4, s) _ _ _ _ rfl rfl rfl rfl rfl) ?_
       obtain ⟨W5, e5⟩ : ∃ W5, W5 = W4.alloc (.cells ([(some ⟨w.heap.size, 0, none⟩, 1, [83]), (some ⟨W1.heap.size, 0, none⟩, c2, t), (some ⟨W2.heap.size, 0, none⟩, 1, [0]), (some ⟨W3.heap.size, 0, none⟩, c4, s)].map pv).toArray 36) := ⟨_, rfl⟩
       rw [← e5]
       have hb5 : Below W4.heap.size W4 W5 := by rw [e5]; exact (Below.refl _ _).alloc (Nat.le_refl _) _
       have B5 := Lib.hid (B4.out.trans (hb5.mono B4.out.size))
       have hof : Calls Tryd.prog 14 #[.slice (some ⟨W4.heap.size, 0, none⟩) 4 4] W5 fun e w' => e = .returned (.agg (vb (sha mk))) ∧ Below W5.heap.size W5 w' := ArrAt.of (ps := [(some ⟨w.heap.size, 0, none⟩, 1, [83]), (some ⟨W1.heap.size, 0, none⟩, c2, t), (some ⟨W2.heap.size, 0, none⟩, 1, [0]), (some ⟨W3.heap.size, 0, none⟩, c4, s)]) ⟨W4.heap.size, rfl, Nat.zero_le _, by rw [e5]; exact Blk.new _ _ _⟩ mk (by rw [HMK.out]; show [83] ++ (t ++ ([0] ++ (s ++ []))) = _; rw [List.append_nil]) HML.out (by
         intro p hp
         simp at hp
         rcases hp with rfl | rfl | rfl | rfl
         · exact (Rd.below R14.out hb5).more hb5.size
         · exact (Rd.below R24.out hb5).more hb5.size
         · exact (Rd.below R34.out hb5).more hb5.size
         · exact (Rd.below R44.out hb5).more hb5.size) (by rw [HMK.out]; simp; have := HTL.out; have := HSL.out; omega) (by simp) (HRO.out.next B5.out)
       have OF := Lib.hid hof
       clear e5 hb5 hof R14 R24 R34 R44)
    | (go_at_call 14; (with_reducible refine OF.out.mono ?_); rintro e W6 ⟨rfl, hb6⟩; have B6 := Lib.hid (B5.out.trans (hb6.mono B5.out.size)); clear hb6 OF)
    | (go_at_call 13; (refine (short_c (sha mk) W6 (sha_len mk) (sha_lt mk)).mono ?_); rintro e W7 ⟨rfl, hb7⟩; have B7 := Lib.hid (B6.out.trans (hb7.mono B6.out.size)); rw [← HAS.out]; clear hb7))
  clear HMK HML HAS HCT HCS B1 B2 B3 B4 B5 B6
  have HR7 := Lib.hid (HRR.out.next B7.out)
  by_cases hL : L.length = 0
  · obtain rfl : L = [] := List.eq_nil_of_length_eq_zero hL
    obtain ⟨AL, cL, rfl, _, _, _⟩ := HR7.out.own.rd
    have c0 : W7.cell? ⟨g, 0, none⟩ = some (.slice AL 0 cL) := HR7.out.rowC
    go_upto_region 5 with (go_at_call 19; (refine (bst0_c AL cL x _ W7).mono ?_); rintro e W8 ⟨b, rfl, hb8⟩; have B8 := Lib.hid hb8; clear hb8)
    clear c0
    have c0 : W8.cell? ⟨g, 0, none⟩ = some (.slice AL 0 cL) := (HR7.out.next B8.out).rowC
    have HB := Lib.hid (B7.out.trans (B8.out.mono B7.out.size))
    go_wp2_with fail
    go_step3
    go_wp2_with fail
    go_loopw [10, 38] (fun ov iv wr => ov = .slice none 0 0 ∧ iv = .int .i64 0 ∧ wr = W8) (fun _ _ _ => 0)
    case atStart => exact ⟨rfl, rfl, rfl⟩
    case round =>
      obtain ⟨rfl, rfl, rfl⟩ := hrel
      go_wp2_with fail
      try rw [Exit.noGoto_ret]
      go_ret
      exact ⟨none, 0, rfl, Nat.le_refl _, Rd.nil_ _ _ _, HB.out⟩
  · obtain ⟨AL, cL, e1, hlc, hlm, _⟩ := HR7.out.own.rd
    obtain ⟨gl, cL', rest, e2, hbl, hgl, hbk, _⟩ := HR7.out.own.forms (by omega)
    subst e1
    cases e2
    have c0 : W7.cell? ⟨g, 0, none⟩ = some (.slice (some ⟨gl, 0, none⟩) L.length cL) := HR7.out.rowC
    have HBS := Lib.hid (bst_c cL x (fromL x L) ⟨gl, 0, none⟩ L W7 HLL.out hlc hlm hgl (atA_pts hbk) (spT_of HSO.out))
    have HBK := Lib.hid hbk
    have hcI : (cL : Int) ≤ 9223372036854775807 := by unfold maxLen at hlm; omega
    have hfl : fromL x L ≤ L.length := List.countP_le_length
    have HRG := Lib.hid (fun k (hk : k < L.length) => rot_get (at_ := x) hk)
    have HRL := Lib.hid (rot_len x L)
    have hl0 : 0 < L.length := by omega
    have hl1 : L.length ≤ 1000 := HLL.out
    clear hbk hlm hbl hgl hL
    generalize fromL x L = f at *
    generalize rotL x L = R at *
    go_upto_region 5 with (go_at_call 19; (with_reducible refine HBS.out.mono ?_); rintro e W8 ⟨b, rfl, hb8⟩; have B8 := Lib.hid hb8; clear hb8)
    clear c0 HBS
    have HR8 := Lib.hid (HR7.out.next B8.out)
    have HBK8 := Lib.hid (HBK.out.below B8.out HBK.out.lt)
    have c0 : W8.cell? ⟨g, 0, none⟩ = some (.slice (some ⟨gl, 0, none⟩) L.length cL) := HR8.out.rowC
    have HB8 := Lib.hid (B7.out.trans (B8.out.mono B7.out.size))
    clear HR7 HBK B7 B8
    go_wp2_with fail
    go_step3
    go_wp2_with fail
    clear c0
    go_loopw [10, 38] (fun ov iv wr => ∃ (k : Nat) (o : List Nat), k ≤ L.length ∧ iv = .int .i64 (k : Nat) ∧ OwnI wr W8.heap.size ov o ∧ firsts 3 [] R = firsts 3 o (R.drop k) ∧ o.length < 3 ∧ Below W8.heap.size W8 wr) (fun _ iv _ => L.length - (intOf iv).toNat)
    case atStart => exact ⟨0, [], Nat.zero_le _, rfl, OwnI.nil_ _ _, rfl, by decide, Below.refl _ _⟩
    case round =>
      rename World => wr
      obtain ⟨k, o, hk, rfl, ho, hf, ho3, hb⟩ := hrel
      by_cases hlt : k < L.length
      · have q1 : (k : Int) < (L.length : Int) := by omega
        obtain ⟨s1, hs1⟩ : ∃ s1, s1 = f + k := ⟨_, rfl⟩
        have e1 : (f : Int) + (k : Int) = (s1 : Int) := by omega
        obtain ⟨q, hq⟩ : ∃ q, q = s1 % L.length := ⟨_, rfl⟩
        have hq1 : q < L.length := by rw [hq]; exact Nat.mod_lt _ hl0
        have e2 : Int.tmod (s1 : Int) (L.length : Int) = (q : Int) := by rw [hq, Int.tmod_eq_emod_of_nonneg (by omega)]; omega
        have e3 : (s1 : Int) % (L.length : Int) = (q : Int) := by rw [hq]; omega
        have r1 : ¬ (L.length : Int) = 0 := by omega
        have r3 : ¬ L = [] := fun h => by rw [h] at hl0; cases hl0
        have e4 : IntKind.i64.wrap (s1 : Int) = (s1 : Int) := by rw [IntKind.wrap_i64]; omega
        have r2 : (q : Int) < (L.length : Int) := by omega
        have hpt : R.getD k pt0 = L.getD q pt0 := by rw [HRG.out k hlt, hq, hs1]
        have hdr : R.drop k = L.getD q pt0 :: R.drop (k + 1) := by
          rw [List.drop_eq_getElem_cons (by rw [HRL.out]; exact hlt), ← hpt, List.getD_eq_getElem?_getD, List.getElem?_eq_getElem (by rw [HRL.out]; exact hlt)]
          rfl
        rw [hdr] at hf
        have c0 : ∀ x : Ext wr, x.wd.cell? ⟨g, 0, none⟩ = some (.slice (some ⟨gl, 0, none⟩) L.length cL) := fun x => x.cell (HR8.out.next hb).rowC
        have hbk := HBK8.out.below hb HBK8.out.lt
        have hrg := ext_rangeR (range_pt hbk hq1)
        obtain ⟨p, hp⟩ : ∃ p, p = L.getD q pt0 := ⟨_, rfl⟩
        rw [← hp] at hf hrg
        have HF := Lib.hid hf
        have HO := Lib.hid ho
        have HB := Lib.hid hb
        have HLT := Lib.hid hlt
        have HRP := Lib.hid hrg
        have HPL := Lib.hid (ptLn p)
        have HO3 := Lib.hid ho3
        clear hs1 hq hpt hdr hbk hrg hp hf ho hb hlt ho3 hk
        go_upto_region 9 with fail
        have hdr : ∃ x : Ext wr, wr.drew = x.wd := Ext.of (Below.refl _ _).drew
        refine wp_region_held (S := fun w' => ∃ x : Ext wr, w' = x.wd) (by kernel_rfl) ?_
        show wpAnyH _ _ _ _ _ 17 _ _ wr.drew
        refine anyH_quiet 0 rfl (by kernel_rfl) (by kernel_rfl) (by kernel_rfl) (fun _ _ _ _ h => h) rfl rfl hdr ?_
        intro K hK
        conv => arg 2; whnf
        go_big_quiet_op
        go_big_quiet_on
        refine anyH_nilR 1 rfl (by kernel_rfl) (by kernel_rfl) (by kernel_rfl) (fun _ _ _ _ h => h) rfl (.tmp 41) rfl ⟨g, 0, none⟩ rfl hdr _ (by conv => lhs; arg 2; whnf) ?_
        simp only [Act.put, List.setIfInBounds_toArray, List.set_cons_succ, List.set_cons_zero]
        refine anyH_quiet 2 rfl (by kernel_rfl) (by kernel_rfl) (by kernel_rfl) (fun _ _ _ _ h => h) rfl rfl hdr ?_
        intro K hK
        conv => arg 2; whnf
        go_big_quiet_op
        go_big_quiet_on
        refine anyH_quiet 3 rfl (by kernel_rfl) (by kernel_rfl) (by kernel_rfl) (fun _ _ _ _ h => h) rfl rfl hdr ?_
        intro K hK
        conv => arg 2; whnf
        go_big_quiet_op
        go_big_quiet_on
        refine anyH_quiet 4 rfl (by kernel_rfl) (by kernel_rfl) (by kernel_rfl) (fun _ _ _ _ h => h) rfl rfl hdr ?_
        intro K hK
        conv => arg 2; whnf
        go_big_quiet_op
        go_big_quiet_on
        refine anyH_quiet 5 rfl (by kernel_rfl) (by kernel_rfl) (by kernel_rfl) (fun _ _ _ _ h => h) rfl rfl hdr ?_
        intro K hK
        conv => arg 2; whnf
        go_big_quiet_op
        go_big_quiet_on
        refine anyH_quiet 6 rfl (by kernel_rfl) (by kernel_rfl) (by kernel_rfl) (fun _ _ _ _ h => h) rfl rfl hdr ?_
        intro K hK
        conv => arg 2; whnf
        go_big_quiet_op
        go_big_quiet_on
        refine anyH_quiet 7 rfl (by kernel_rfl) (by kernel_rfl) (by kernel_rfl) (fun _ _ _ _ h => h) rfl rfl hdr ?_
        intro K hK
        conv => arg 2; whnf
        go_big_quiet_op
        go_big_quiet_on
        refine anyH_nilR 8 rfl (by kernel_rfl) (by kernel_rfl) (by kernel_rfl) (fun _ _ _ _ h => h) rfl (.tmp 48) rfl ⟨g, 0, none⟩ rfl hdr _ (by conv => lhs; arg 2; whnf) ?_
        simp only [Act.put, List.setIfInBounds_toArray, List.set_cons_succ, List.set_cons_zero]
        refine anyH_quiet 9 rfl (by kernel_rfl) (by kernel_rfl) (by kernel_rfl) (fun _ _ _ _ h => h) rfl rfl hdr ?_
        intro K hK
        conv => arg 2; whnf
        go_big_quiet_op
        go_big_quiet_on
        refine anyH_quiet 10 rfl (by kernel_rfl) (by kernel_rfl) (by kernel_rfl) (fun _ _ _ _ h => h) rfl rfl hdr ?_
        intro K hK
        conv => arg 2; whnf
        go_big_quiet_op
        go_big_quiet_on
        refine anyH_runR 11 rfl _ (run_lenR (.tmp 51) 33 Tryd.underlying33 rfl rfl) (by kernel_rfl) (by kernel_rfl) (by kernel_rfl) (fun _ _ _ h => h) rfl hdr _ (by conv => lhs; arg 2; whnf) ?_
        simp only [Act.put, List.setIfInBounds_toArray, List.set_cons_succ, List.set_cons_zero]
        refine anyH_quiet 12 rfl (by kernel_rfl) (by kernel_rfl) (by kernel_rfl) (fun _ _ _ _ h => h) rfl rfl hdr ?_
        intro K hK
        conv => arg 2; whnf
        go_big_quiet_op
        go_big_quiet_on
        refine anyH_quiet 13 rfl (by kernel_rfl) (by kernel_rfl) (by kernel_rfl) (fun _ _ _ _ h => h) rfl rfl hdr ?_
        intro K hK
        conv => arg 2; whnf
        go_big_quiet_op
        go_big_quiet_on
        refine anyH_quiet 14 rfl (by kernel_rfl) (by kernel_rfl) (by kernel_rfl) (fun _ _ _ _ h => h) rfl rfl hdr ?_
        intro K hK
        conv => arg 2; whnf
        refine quiet_loadT 44 (.tmp 54) rfl gl (q * 2) rfl (ptL p) _ HRP.out Tryd.underlying44 rfl HPL.out _ (by conv => lhs; arg 2; whnf) ?_
        go_big_quiet_on
        have hbd : Below wr.heap.size wr wr.drew := (Below.refl _ _).drew
        clear c0 e1 e2 e3 e4 hdr HRP
        generalize wr.drew = wd at *
        simp only [Act.put, List.setIfInBounds_toArray, List.set_cons_succ, List.set_cons_zero]
        refine anyH_op 15 (by kernel_rfl) rfl rfl ?_
        have hba : Below wr.heap.size wr (wd.alloc (.cells zT 44)) := hbd.alloc hbd.size _
        refine op_value (run_allocT wd rfl) _ (by conv => lhs; arg 2; whnf) ⟨Ext.of hba, ?_⟩
        have hbk0 : Blk (wd.alloc (.cells zT 44)) wd.heap.size 44 zT := Blk.new wd _ _
        have hgp : wr.heap.size ≤ wd.heap.size := hbd.size
        generalize wd.alloc (.cells zT 44) = wa at *
        generalize wd.heap.size = gp at *
        simp only [Act.put, List.setIfInBounds_toArray, List.set_cons_succ, List.set_cons_zero]
        refine anyH_op 16 (by kernel_rfl) rfl rfl ?_
        have hbY : Below wr.heap.size wr (wa.setCells gp 0 (ptV p).toList) := Below.setCell (Below.setCell hba hgp _) hgp _
        refine wp_store_mid 44 (.tmp 12) (.tmp 55) rfl gp 0 (ptV p) rfl rfl (there_blk hbk0 2 (by decide)) (ptInfo p) (ptV_one p) ⟨Ext.of hbY, ?_⟩
        have hbk1 : Blk (wa.setCells gp 0 (ptV p).toList) gp 44 (ptV p) := (hbk0.set_ 0 (.int .u64 (p.1 : Int))).set_ 1 (.int .i64 (p.2 : Int))
        generalize wa.setCells gp 0 (ptV p).toList = Y at *
        simp only [Act.put, List.setIfInBounds_toArray, List.set_cons_succ, List.set_cons_zero]
        refine wpAnyH_done (by kernel_rfl) ?_ _
        have HOY := Lib.hid (HO.out.next hbY)
        have HBY := Lib.hid (HB.out.trans (hbY.mono HB.out.size))
        have c1 : Y.cell? ⟨gp, 1, none⟩ = some (.int .i64 (p.2 : Int)) := (AtA.ptBlk hbk1).nod
        clear hbY hbk0 hbk1 hba hbd hgp HO HB
        obtain ⟨A, c, rfl, h1, h2, h3⟩ := HOY.out.rd
        have hct := containsT_c Y.heap.size A c o (p.2 : Int) Y h3 (by have := HO3.out; omega) h1
        rw [hasI_nat] at hct
        have HF2 := HF.out
        rw [firsts] at HF2
        have HFF := Lib.hid HF2
        have HCI := Lib.hid (show (c : Int) ≤ 9223372036854775807 by unfold maxLen at h2; omega)
        clear HF2 h1 h2 h3
        obtain ⟨pn, hpn⟩ : ∃ pn, pn = p.2 := ⟨_, rfl⟩
        rw [← hpn] at hct c1 HFF
        have HCT := Lib.hid hct
        clear hct hpn
        rcases (show o.contains pn = true ∨ o.contains pn = false by cases o.contains pn <;> simp) with hc | hc
        · rw [hc] at HCT
          rw [hc, if_pos rfl] at HFF
          clear hc
          go_wp2_with (go_at_call 22; (with_reducible refine HCT.out.mono ?_); rintro e Y1 ⟨rfl, rfl⟩)
          go_roundw
          case rel => exact ⟨k + 1, o, HLT.out, by go_num, HOY.out, HFF.out, HO3.out, HBY.out⟩
          case measure => have := HLT.out; simp [intOf]; omega
        · rw [hc] at HCT
          rw [hc, if_neg (by simp)] at HFF
          obtain ⟨mm, hmm⟩ : ∃ mm, mm = o.length + 1 := ⟨_, rfl⟩
          have hml : (o ++ [pn]).length = mm := by rw [hmm]; simp
          have HMM := Lib.hid hmm
          have HML := Lib.hid hml
          have HO2 := Lib.hid (HOY.out)
          clear hc hmm hml
          go_upto_region 12 with (first
            | (go_at_call 22; (with_reducible refine HCT.out.mono ?_); rintro e Y1 ⟨rfl, rfl⟩)
            | (refine wpList_valM rfl _ _ (run_oneI Y pn (.tmp 62) rfl (by rfl)) ?_)
            | (at_builtin; refine wpList_app _ rfl (.tmp 60) (.tmp 63) _ rfl W8.heap.size 3 i0 (.int .i64 0) 1 8 Tryd.underlying25 hi hz0 hz1 hz2 rfl (by decide) _ o.length (its o) rfl (HO2.out.allocI _) _ (some ⟨Y.heap.size, 0, none⟩) 1 1 (its [pn]) rfl rfl (by exact rd_new Y (its [pn]) 3 (0, 0)) (its_one _) (by have := HO3.out; omega) (by have := HO3.out; omega) (by have := HBY.out.size; simp; omega) ?_
               intro v2 Y2 hap
               have HB2 := Lib.hid ((HBY.out.alloc HBY.out.size _).trans (hap.below (HO2.out.allocI _) (by have := HBY.out.size; simp; omega)))
               have HV2 := Lib.hid (OwnI.app (l := o) (m := [pn]) hap)
               clear hap))
          obtain ⟨A2, c2, e2, g1, g2, g3⟩ := HV2.out.rd
          rw [HML.out] at e2 HFF
          subst e2
          have HG1 := Lib.hid g1
          have HG3 := Lib.hid g3
          clear g1 g2 g3
          by_cases h3 : mm = 3
          · subst h3
            rw [if_pos rfl] at HFF
            go_wp2_with fail
            try rw [Exit.noGoto_ret]
            go_ret
            rw [HFF.out]
            exact ⟨A2, c2, by rw [HML.out]; first | done | rfl, HG1.out, HG3.out, HB8.out.trans (HB2.out.mono HB8.out.size)⟩
          · rw [if_neg h3] at HFF
            have z1 : ¬ (mm : Int) = 3 := by omega
            go_wp2_with fail
            go_roundw
            case rel => exact ⟨k + 1, o ++ [pn], HLT.out, by go_num, HV2.out, HFF.out, by rw [HML.out]; have := HMM.out; have := HO3.out; omega, HB2.out⟩
            case measure => have := HLT.out; simp [intOf]; omega
      · obtain rfl : k = L.length := by omega
        have q1 : ¬ (L.length : Int) < (L.length : Int) := by omega
        rw [List.drop_of_length_le (by rw [HRL.out]; exact Nat.le_refl _)] at hf
        obtain ⟨A, c, rfl, h1, h2, h3⟩ := ho.rd
        have HF := Lib.hid hf
        have HR := Lib.hid h3
        have H1 := Lib.hid h1
        have HB := Lib.hid hb
        clear hf h1 h2 h3 ho hb
        go_wp2_with fail
        try rw [Exit.noGoto_ret]
        go_ret
        exact ⟨A, c, by rw [HF.out]; rfl, by rw [HF.out]; exact H1.out, by rw [HF.out]; exact HR.out, HB8.out.trans (HB.out.mono HB8.out.size)⟩
end Go.Proofs.YtbgnjjbmidkhlaaDoor
/- Contracts: Len, Has; the document's short, SameInts. -/
namespace Go.Proofs.YtbgnjjbmidkhlaaDoor
set_option linter.unusedVariables false
set_option linter.unusedSimpArgs false
set_option maxRecDepth 100000
open Go.RowKit
set_option linter.unusedVariables false
set_option linter.unusedSimpArgs false
set_option maxRecDepth 100000 in
theorem len_c (g n : Nat) (L : List Pt) (v : Value) (w : World) (hr : RAt w g L n v) : Calls Tryd.prog 8 #[.pointer (some ⟨g, 0, none⟩)] w fun e w' => e = .returned (.int .i64 (n : Int)) ∧ w = w' := by
  have c0 := hr.numC
  clear hr
  go_enter Tryd.func8, Tryd.ntmps8
  go_wp2_with fail
  go_ret
  exact ⟨rfl, rfl⟩
set_option maxRecDepth 100000 in
theorem lenN_c (w : World) : Calls Tryd.prog 8 #[.pointer none] w fun e w' => e = .returned (.int .i64 0) ∧ w = w' := by
  go_enter Tryd.func8, Tryd.ntmps8
  go_wp2_with fail
  go_ret
  exact ⟨rfl, rfl⟩
set_option maxRecDepth 100000 in
theorem has_c (r : Value) (x : Int) (t s : Value) (o : List Nat) (w : World) (ho : o.length ≤ 1000) (h : Calls Tryd.prog 10 #[r, t, s] w (NodesOk w o)) :
    Calls Tryd.prog 11 #[r, .int .i64 x, t, s] w fun e w' => e = .returned (.bool (hasI o x)) ∧ Below w.heap.size w w' := by
  have HN := Lib.hid h
  have HO := Lib.hid ho
  clear h ho
  have HC := Lib.hid (fun A c W (h1 : RdI W W.heap.size A o) (h2 : o.length ≤ c) => containsT_c W.heap.size A c o x W h1 HO.out h2)
  generalize hasI o x = b at *
  go_enter Tryd.func11, Tryd.ntmps11
  go_wp2_with (first
    | (go_at_call 10; (with_reducible refine HN.out.mono ?_); rintro e W1 ⟨A, c, rfl, h1, h2, h3⟩; have HC1 := Lib.hid (HC.out A c W1 h2 h1); have HB := Lib.hid h3; clear h1 h2 h3)
    | (go_at_call 22; (with_reducible refine HC1.out.mono ?_); rintro e W2 ⟨rfl, rfl⟩))
  go_ret
  exact ⟨rfl, HB.out⟩
set_option maxRecDepth 100000 in
set_option maxHeartbeats 4000000 in
theorem sameT_c (A B : Option Addr) (c1 c2 : Nat) (l : List Nat) (w : World) (hr1 : RdI w w.heap.size A l) (hr2 : RdI w w.heap.size B l) (hl : l.length ≤ 1000) :
    Calls Tryd.prog 9 #[.slice A l.length c1, .slice B l.length c2] w (Quietly (.bool true) w) := by
  have HR1 := Lib.hid hr1
  have HR2 := Lib.hid hr2
  clear hr1 hr2
  go_enter Tryd.func9, Tryd.ntmps9
  go_wp2_with fail
  go_loopw [5] (fun i wr => ∃ k z : Nat, k ≤ l.length ∧ i = .int .i64 k ∧ wr = w.drewN z) (fun i _ => l.length - (intOf i).toNat)
  case atStart => exact ⟨0, 0, by omega, rfl, rfl⟩
  case round =>
    obtain ⟨k, z, hk, rfl, rfl⟩ := hrel
    by_cases hlt : k < l.length
    · obtain ⟨al, rfl, _, h1⟩ := HR1.out (by intro h0; have h1 : (its l).length = 0 := by { rw [h0]; rfl }; rw [its_len] at h1; omega)
      obtain ⟨bl, rfl, _, h2⟩ := HR2.out (by intro h0; have h1 : (its l).length = 0 := by { rw [h0]; rfl }; rw [its_len] at h1; omega)
      have c0 : ∀ n, (w.drewN n).cell? (al.add k) = some (.int .i64 ((l.getD k 0 : Nat) : Int)) := fun n => h1 k _ (its_at hlt)
      have c1 : ∀ n, (w.drewN n).cell? (bl.add k) = some (.int .i64 ((l.getD k 0 : Nat) : Int)) := fun n => h2 k _ (its_at hlt)
      have hkn : (k : Int) < (l.length : Int) := by omega
      clear h1 h2
      generalize l.getD k 0 = y at *
      go_wp2_with fail
      refine wp_region_class (fun z => w.drewN z) (by kernel_rfl) (by kernel_rfl) ⟨z + 1, rfl⟩ ?_
      repeat (go_big_quiet_step (fail))
      refine wpQuiet_nil ?_
      rintro _ ⟨z3, rfl⟩
      go_wp2_with fail
      go_roundw
      case rel =>
        exact ⟨k + 1, z3, by omega, by go_num, rfl⟩
      case measure => simp [intOf]; omega
    · have hkn : k = l.length := by omega
      have h0 : ¬ (k : Int) < (l.length : Int) := by omega
      clear hkn hlt
      go_wp2_with fail
      go_ret
      exact ⟨rfl, z, rfl⟩
def zSm : Array Value := vb (List.replicate 32 0)
set_option maxRecDepth 100000 in
set_option maxHeartbeats 4000000 in
theorem rshort_c (A : Option Addr) (ca : Nat) (m : List Nat) (w : World) (hr : Rd w w.heap.size A (byt m)) (hml : ∀ c ∈ m, c < 256) (hlen : m.length ≤ 10000) :
    Calls Tryd.prog 17 #[.slice A m.length ca] w fun e w' => e = .returned (.int .u64 (number ((sha m).take 8) : Nat)) ∧ Below w.heap.size w w' := by
  have HSU := Lib.hid (rsum_c w.heap.size A ca m w hr (Nat.le_refl _) hml hlen)
  have hsl := sha_len m
  have hst := sha_lt m
  clear hr hml hlen
  obtain ⟨sm, hsm⟩ : ∃ sm, sm = sha m := ⟨_, rfl⟩
  rw [← hsm] at HSU hsl hst ⊢
  clear hsm
  have HN := Lib.hid (fun (g : Nat) (W : World) (h : Blk W g 41 (vb sm)) => show Calls Tryd.prog 33 #[.slice (some ⟨g, 0, none⟩) 8 32] W fun e w' => e = .returned (.int .u64 (number (sm.take 8) : Nat)) ∧ W = w' by
    have h8 : (sm.take 8).length = 8 := by rw [List.length_take, hsl]; rfl
    have h1 := rnumber_c (g + 1) (some ⟨g, 0, none⟩) 32 (sm.take 8) W (rd_blk h _ 8 (by
      show byt (sm.take 8) = ((byt sm).toArray.toList).take 8
      rw [List.toList_toArray]
      simp [byt])) (fun c hc => hst c (List.mem_of_mem_take hc)) (by omega)
    rw [h8] at h1
    exact h1)
  have zf : ∀ W, (zeroValue 41).run Tryd.prog W = .ok (.agg zSm) W := fun W => by kernel_rfl
  have zs1 : zSm.size = 32 := by rfl
  have zs2 : ¬ zSm = #[] := by intro h; have := congrArg Array.size h; rw [zs1] at this; cases this
  have hsz : (Tryd.prog.info? 41).map (·.size) = some (vb sm).size := by rw [vb_size, hsl]; kernel_rfl
  have hss : (vb sm).size = zSm.size := by rw [vb_size, hsl]; rfl
  have zs3 : zSm.size = 32 := zs1
  generalize number (sm.take 8) = nb at *
  go_enter Tryd.func17, Tryd.ntmps17
  go_upto_region 2 with (first
    | (go_at_call 32; (with_reducible refine HSU.out.mono ?_); rintro e W1 ⟨rfl, hb1⟩; have HB1 := Lib.hid hb1; clear hb1)
    | (refine wpList_store_rowTo rfl 41 (.tmp 3) (.tmp 5) rfl rfl W1.heap.size (vb sm) rfl rfl 41 zSm (by exact heap_alloc_new _ _) hsz (by rw [vb_size, hsl]; rfl) (vb_one _) ?_))
  obtain ⟨Y, hY⟩ : ∃ Y, Y = (W1.alloc (Obj.cells zSm 41)).setRow W1.heap.size (vb sm) := ⟨_, rfl⟩
  have hnr := new_rowT W1 41 zSm (vb sm)
  rw [← hY] at hnr ⊢
  have HG0 := Lib.hid hnr.1
  have HBY := Lib.hid (HB1.out.trans (hnr.2.mono HB1.out.size))
  clear hnr hY zf zs1 zs2 hsz hss
  generalize W1.heap.size = g1 at *
  go_wp2_with (go_at_call 33; (refine (HN.out g1 Y HG0.out).mono ?_); rintro e W2 ⟨rfl, rfl⟩)
  go_ret
  exact ⟨rfl, HBY.out⟩
end Go.Proofs.YtbgnjjbmidkhlaaDoor
/- What the document's search for nodes computes: plain. -/
namespace Go.Proofs.YtbgnjjbmidkhlaaDoor
set_option linter.unusedVariables false
set_option linter.unusedSimpArgs false
set_option maxRecDepth 100000
open Go.RowKit
set_option linter.unusedVariables false
set_option linter.unusedSimpArgs false
theorem mem_rawTo {node k : Nat} {p : Pt} (h : p ∈ rawTo node k) : p.2 = node := by
  unfold rawTo at h
  obtain ⟨i, _, rfl⟩ := List.mem_map.1 h
  rfl
theorem mem_rawL {n : Nat} {p : Pt} (h : p ∈ rawL n) : p.2 < n := by
  unfold rawL at h
  obtain ⟨node, hn, hp⟩ := List.mem_flatMap.1 h
  rw [mem_rawTo hp]
  exact List.mem_range.1 hn
theorem rawL_all {n x : Nat} (h : x < n) : ∃ p ∈ rawL n, p.2 = x := by
  refine ⟨rawP x 0, ?_, rfl⟩
  unfold rawL
  exact List.mem_flatMap.2 ⟨x, List.mem_range.2 h, by unfold rawTo; exact List.mem_map.2 ⟨0, by simp, rfl⟩⟩
theorem rawL_sorted : ∀ n, (rawL n).Pairwise (fun p q => p.2 ≤ q.2)
  | 0 => by simp [rawL]
  | n + 1 => by
    rw [rawL_succ, List.pairwise_append]
    refine ⟨rawL_sorted n, ?_, fun p hp q hq => ?_⟩
    · refine List.pairwise_iff_getElem.2 fun i j hi hj _ => ?_
      rw [mem_rawTo (List.getElem_mem hi), mem_rawTo (List.getElem_mem hj)]
      exact Nat.le_refl _
    · rw [mem_rawTo hq]; have := mem_rawL hp; omega
theorem rawP_lt (node i : Nat) : (rawP node i).1 < 18446744073709551616 := by
  have h := number_lt ((sha (mkR node i)).take 8) (fun c hc => sha_lt _ c (List.mem_of_mem_take hc))
  have h8 : ((sha (mkR node i)).take 8).length = 8 := by rw [List.length_take, sha_len]; rfl
  rw [h8] at h
  exact h
theorem rawL_lt {n : Nat} {p : Pt} (h : p ∈ rawL n) : p.1 < 18446744073709551616 := by
  unfold rawL at h
  obtain ⟨node, hn, hp⟩ := List.mem_flatMap.1 h
  unfold rawTo at hp
  obtain ⟨i, _, rfl⟩ := List.mem_map.1 hp
  exact rawP_lt node i
theorem atS_lt (t s : List Nat) : atS t s < 18446744073709551616 := by
  have h := number_lt ((sha (mkS t s)).take 8) (fun c hc => sha_lt _ c (List.mem_of_mem_take hc))
  have h8 : ((sha (mkS t s)).take 8).length = 8 := by rw [List.length_take, sha_len]; rfl
  rw [h8] at h
  exact h
theorem scan_app (x : Nat) (o : List Nat) : ∀ (a b : List Pt) (acc : Option Pt), scan x o (a ++ b) acc = scan x o b (scan x o a acc)
  | [], b, acc => rfl
  | p :: a, b, acc => by rw [List.cons_append, scan, scan, scan_app x o a b]
theorem scan_skip (x : Nat) (o : List Nat) : ∀ (a : List Pt) (acc : Option Pt), (∀ p ∈ a, o.contains p.2 = true) → scan x o a acc = acc
  | [], acc, _ => rfl
  | p :: a, acc, h => by
    rw [scan, if_pos (h p (List.mem_cons_self ..))]
    exact scan_skip x o a acc (fun q hq => h q (List.mem_cons_of_mem _ hq))
theorem scan_there (x : Nat) (o : List Nat) (node k : Nat) (acc : Option Pt) (h : o.contains node = true) : scan x o (rawTo node k) acc = acc :=
  scan_skip x o _ acc (fun p hp => by rw [mem_rawTo hp]; exact h)
theorem scan_one (x : Nat) (o : List Nat) (node j : Nat) (acc : Option Pt) (h : o.contains node = false) : scan x o (rawTo node (j + 1)) acc = better1 x (rawP node j) (scan x o (rawTo node j) acc) := by
  rw [rawTo_succ, scan_app]
  show (if o.contains (rawP node j).2 = true then _ else _) = _
  rw [show (rawP node j).2 = node from rfl, h, if_neg (by simp)]
theorem scan_some {x n : Nat} {o : List Nat} (h : o.length < n) : ∃ fb, scan x o (rawL n) none = some fb := by
  have h1 := scan_near x o (rawL n) [] none (by rw [List.nil_append]; exact rawL_sorted n) (fun p hp => by cases hp)
  rw [List.nil_append] at h1
  cases hs : scan x o (rawL n) none with
  | some fb => exact ⟨fb, rfl⟩
  | none =>
    rw [hs] at h1
    have h2 : ∀ p ∈ rawL n, p.2 ∈ o := h1
    have h3 := nodup_sub (List.range n) o List.nodup_range (fun y hy => by
      obtain ⟨p, hp, rfl⟩ := rawL_all (List.mem_range.1 hy)
      exact h2 p hp)
    rw [List.length_range] at h3
    omega
def bestI : Option Pt → Int
  | none => -1
  | some fb => (fb.2 : Int)
def farN : Option Pt → Nat
  | none => 0
  | some fb => fb.1
theorem refN_stop {x n : Nat} {S : List Pt} {k : Nat} {o : List Nat} (h : ¬ (o.length < 3 ∧ o.length < n)) : refN x n S k o = o := by
  cases k with
  | zero => rfl
  | succ k => rw [refN, if_neg h]
theorem refN_go {x n : Nat} {S : List Pt} {k : Nat} {o : List Nat} {fb : Pt} (h : o.length < 3 ∧ o.length < n) (hs : scan x o S none = some fb) : refN x n S (k + 1) o = refN x n S k (o ++ [fb.2]) := by
  rw [refN, if_pos h, hs]
theorem dst_wrap {a x : Nat} (ha : a < 18446744073709551616) (hx : x < 18446744073709551616) : IntKind.u64.wrap ((a : Int) - (x : Int)) = (dst x a : Int) := by
  rw [IntKind.wrap_u64]
  unfold dst
  by_cases h : x ≤ a
  · rw [if_pos h]; omega
  · rw [if_neg h]; omega
theorem dst_lt {a x : Nat} (ha : a < 18446744073709551616) (hx : x < 18446744073709551616) : dst x a < 18446744073709551616 := by
  unfold dst
  split <;> omega
theorem scan_lt {x : Nat} {o : List Nat} (hx : x < 18446744073709551616) : ∀ (l : List Pt) (acc : Option Pt), (∀ p ∈ l, p.1 < 18446744073709551616) → (farN acc < 18446744073709551616 ∧ bestI acc < 1000 ∧ -1 ≤ bestI acc) → (∀ p ∈ l, p.2 < 1000) → farN (scan x o l acc) < 18446744073709551616 ∧ bestI (scan x o l acc) < 1000 ∧ -1 ≤ bestI (scan x o l acc)
  | [], acc, _, h, _ => h
  | p :: l, acc, h1, h2, h3 => by
    rw [scan]
    refine scan_lt hx l _ (fun q hq => h1 q (List.mem_cons_of_mem _ hq)) ?_ (fun q hq => h3 q (List.mem_cons_of_mem _ hq))
    split
    · exact h2
    · have h4 := h1 p (List.mem_cons_self ..)
      have h5 := h3 p (List.mem_cons_self ..)
      have h6 := dst_lt h4 hx
      have key : farN (some (dst x p.1, p.2)) < 18446744073709551616 ∧ bestI (some (dst x p.1, p.2)) < 1000 ∧ -1 ≤ bestI (some (dst x p.1, p.2)) := ⟨h6, by show ((p.2 : Nat) : Int) < 1000; omega, by show -1 ≤ ((p.2 : Nat) : Int); omega⟩
      cases acc with
      | none => exact key
      | some fb =>
        unfold better1
        simp only
        split
        · exact key
        · exact h2
/-- the nodes, by the ring's points or as the document says -/
theorem nodes_ref {x n : Nat} {L : List Pt} (hx : x < 18446744073709551616) (hS : SortR L) (hp : L.Perm (rawL n)) : refN x n (rawL n) 3 [] = firsts 3 [] (rotL x L) := by
  refine ref_firsts (rot_sorted hS hx (fun p h => rawL_lt (hp.mem_iff.1 h))) (fun p => by rw [mem_rot, hp.mem_iff]) (rawL_sorted n) (fun p h => mem_rawL h) (fun y hy => rawL_all hy) 3 [] (by simp) (by intro y hy; cases hy) (by simp) (by simp)
theorem strCells_bstr {t : List Nat} (ht : ∀ c ∈ t, c < 256) : Lib.strCells (bstr t) = byt t := by
  unfold Lib.strCells bstr byt
  simp only [List.map_map]
  refine List.map_congr_left fun c hc => ?_
  have := ht c hc
  simp [Function.comp]
  omega
theorem own_strR {w : World} {base : Nat} {v : Value} {m t : List Nat} (ht : ∀ c ∈ t, c < 256) (h : w.ownsRow base 5 1 v (m.length + (bstr t).size) (byt m ++ Lib.strCells (bstr t))) : OwnB w base v (m ++ t) := by
  rw [strCells_bstr ht, bstr_size] at h
  unfold OwnB
  rw [List.length_append, show byt (m ++ t) = byt m ++ byt t by simp [byt]]
  exact h
theorem own_oneB (w : World) (c base : Nat) (hb : base ≤ w.heap.size) : OwnB (w.alloc (.cells (byt [c]).toArray 5)) base (.slice (some ⟨w.heap.size, 0, none⟩) 1 1) [c] :=
  ⟨rfl, .inr ⟨w.heap.size, 1, (byt [c]).toArray, rfl, hb, Blk.new w _ _, Nat.le_refl _, by decide, rfl, rfl⟩⟩
end Go.Proofs.YtbgnjjbmidkhlaaDoor
