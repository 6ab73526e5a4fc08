/- Parts, one behind the other: Sga Sn2 Sn3 LiftQU. -/
import Derived.Test.YtfnhmnbcponkfaaGreatDoorZ13
import Derived.Deep.DeepHandedRow
import Derived.OpenShut
set_option maxRecDepth 100000
set_option linter.unusedVariables false
set_option linter.unusedSimpArgs false
set_option maxHeartbeats 2000000
namespace Go.Proofs.YtfnhmnbcponkfaaGreatDoor
open Go.RowKit
theorem epS_le (es : List Nat) (i : Nat) : 1 ≤ epS es i ∧ epS es i ≤ 3 := by unfold epS; omega
theorem bxS_opok {gs : List (List Pc)} {es : List Nat} {i : Nat} (h : OkS gs es i) (hp : ∀ p ∈ grS gs i, PcOk p ∧ p.s.size ≤ 9223372036854775807) : OpOk kf3 (bxS gs es i) ∧ opB kf3 (bxS gs es i) = grS gs i ∧ kf3 (bxS gs es i).ep ≠ none := by
 obtain ⟨h1, h3⟩ := epS_le es i
 have hk := kf3_at h1 h3
 have hp1 : ∀ p ∈ grS gs i, PcOk p := fun p hpp => (hp p hpp).1
 have hos := open_sealed (keyE (epS es i)) (nnS i) (tnS es i) (epS es i) (grS gs i) (tnS_name es i) h.ck hp1
 have hB : opB kf3 (bxS gs es i) = grS gs i := by
  unfold opB bxS
  simp only [hk]
  exact hos.2
 refine ⟨⟨⟨nnS_len i, nnS_lt i, boxL_lt5 _ _ _ _ _ h.ck, by show epS es i < 4294967296; omega⟩, ?_, ?_, fun k hkk => ?_, ?_, ?_⟩, hB, ?_⟩
 ·show (tnS es i).size ≤ 1000
  unfold tnS
  split <;> decide
 ·have := boxL_le5 (keyE (epS es i)) (nnS i) (tnS es i) (epS es i) (grS gs i) h.ck hp1
  show (boxL (keyE (epS es i)) (nnS i) (tnS es i) (epS es i) (grS gs i)).length ≤ 100000
  omega
 ·have hk2 : kf3 (epS es i) = some k := hkk
  rw [hk] at hk2
  injection hk2 with hk2
  subst hk2
  exact ⟨keyE_len _, keyE_lt (by omega), hos.1⟩
 ·rw [hB]; have := h.le; omega
 ·rw [hB]; exact hp
 ·show kf3 (epS es i) ≠ none
  rw [hk]
  intro h
  cases h
theorem of_shelved {gs : List (List Pc)} {es : List Nat} (hp : ∀ i, ∀ p ∈ grS gs i, PcOk p ∧ p.s.size ≤ 9223372036854775807) : ∀ n, (∀ i, i < n → OkS gs es i) → (ofT tenT (bxsS gs es n)).map (opB kf3) = (grsS gs es n).map (·.l) ∧ (∀ b ∈ bxsS gs es n, OpOk kf3 b ∧ kf3 b.ep ≠ none)
 | 0, _ => ⟨rfl, fun b hb => by cases hb⟩
 | n + 1, h => by
  obtain ⟨ih1, ih2⟩ := of_shelved hp n (fun i hi => h i (by omega))
  obtain ⟨ho, hb, hk⟩ := bxS_opok (h n (by omega)) (hp n)
  refine ⟨?_, fun b hbb => ?_⟩
  ·rw [bxsS_succ, grsS_succ]
   by_cases h2 : 200 ≤ es.getD n 0
   ·rw [if_pos h2, ofT_snoc_no (show ((bxS gs es n).t.toList == tenT.toList) = false by
     show ((tnS es n).toList == tenT.toList) = false
     unfold tnS
     rw [if_pos h2]
     decide +kernel)]
    exact ih1
   ·rw [if_neg h2, ofT_snoc_yes (show ((bxS gs es n).t.toList == tenT.toList) = true by
     show ((tnS es n).toList == tenT.toList) = true
     unfold tnS
     rw [if_neg h2]
     decide +kernel), List.map_append, List.map_append, ih1]
    simp only [List.map_cons, List.map_nil, hb]
    rfl
  ·rw [bxsS_succ] at hbb
   rcases List.mem_append.1 hbb with h3 | h3
   ·exact ih2 b h3
   ·rw [List.mem_singleton.1 h3]; exact ⟨ho, hk⟩
theorem grL_13 (g : Gro3) (A : Option Addr) (c : Nat) (h : g.nn.length = 12) : (grL g A c)[13]? = some (.slice A g.l.length c) := by
 unfold grL
 rw [List.getElem?_append_right (by simp [byt_len, h])]
 simp [byt_len, h]
theorem samen_c (B1 B2 : Nat) (A1 A2 : Option Addr) (c1 c2 : Nat) (ns : List (List Nat)) (w : World) (hr1 : RdN w B1 A1 ns) (hr2 : RdN w B2 A2 ns) (hl : ∀ x ∈ ns, x.length = 12 ∧ ∀ c ∈ x, c < 256) (hn : ns.length ≤ 9223372036854775807) :
  Calls Tryz.prog 10 #[.slice A1 ns.length c1, .slice A2 ns.length c2] w (Quietly (.bool true) w) := by
 have HR1 := Li hr1
 have HR2 := Li hr2
 have HL := Li hl
 clear hr1 hr2 hl
 go_enter Tryz.func10, Tryz.ntmps10
 go_wp2_with fail
 go_loopw [5] (fun i wr => ∃ k z : Nat, k ≤ ns.length ∧ i = .int .i64 k ∧ wr = w.drewN z) (fun i _ => ns.length - (intOf i).toNat)
 case atStart => exact ⟨0, 0, by omega, rfl, rfl⟩
 case round =>
  obtain ⟨k, z, hk, rfl, rfl⟩ := hrel
  by_cases hlt : k < ns.length
  ·obtain ⟨al, rfl, _, h1⟩ := HR1.out.at_ (fun x hx => (HL.out x hx).1) hlt
   obtain ⟨bl, rfl, _, h2⟩ := HR2.out.at_ (fun x hx => (HL.out x hx).1) hlt
   have R1 := Li (fun (W : World) (h : ∃ z, W = w.drewN z) => (show AtA W (al.add (k * 12)) (byt (ns.getD k [])) by obtain ⟨z, rfl⟩ := h; exact h1))
   have R2 := Li (fun (W : World) (h : ∃ z, W = w.drewN z) => (show AtA W (bl.add (k * 12)) (byt (ns.getD k [])) by obtain ⟨z, rfl⟩ := h; exact h2))
   have hxm : ns.getD k [] ∈ ns := by rw [jA, jB hlt]; exact List.getElem_mem hlt
   have hx := HL.out _ hxm
   have hkn : (k : Int) < (ns.length : Int) := by omega
   generalize ns.getD k [] = x at *
   have l3 : ∀ W, (Op.equalIn 10000 57 (.agg (vb x)) (.agg (vb x))).run Tryz.prog W = .ok true W := fun W => by
    rw [run_equalIn_barr Tryz.underlying57 Tryz.underlying5 (by kernel_rfl) (by kernel_rfl) x x hx.1 hx.1 hx.2 hx.2 W]
    simp
   have HSB := Li (show (Tryz.prog.info? 57).map (·.size) = some (byt x).length by rw [byt_len, hx.1]; kernel_rfl)
   have HLT := Li hlt
   clear h1 h2 hxm hx hlt
   unfold vb at l3
   go_wp2_with fail
   refine wp_region_class (fun z => w.drewN z) (by kernel_rfl) (by kernel_rfl) ⟨z + 1, rfl⟩ ?_
   repeat (first
    | (refine wpQuiet_loadA 57 (.tmp 19) rfl rfl (al.add (k * 12)) rfl (byt x) _ R1.out Tryz.underlying57 rfl HSB.out _ (by simp only [Act.put, sI, sS, sZ]; rfl) ?_)
    | (refine wpQuiet_loadA 57 (.tmp 23) rfl rfl (bl.add (k * 12)) rfl (byt x) _ R2.out Tryz.underlying57 rfl HSB.out _ (by simp only [Act.put, sI, sS, sZ]; rfl) ?_)
    | go_big_quiet_step (fail))
   refine wpQuiet_nil ?_
   rintro _ ⟨z3, rfl⟩
   go_wp2_with fail
   go_roundw
   case rel =>
    go_light
    have hlt := HLT.out
    exact ⟨k + 1, z3, by omega, by go_num, rfl⟩
   case measure => have := HLT.out; simp [intOf]; omega
  ·have hkn : k = ns.length := by omega
   have h0 : decide (k < ns.length) = false := jG hlt
   clear hkn
   go_wp2_with fail
   go_ret
   exact ⟨rfl, z, rfl⟩
theorem fill_step (place : Nat → Option (Nat × Nat)) (cells cs : Array Value) (i off size : Nat) (rest : List (Nat × Value)) (hp : place i = some (off, size)) (hs : cs.size = size) (hf : off + size ≤ cells.size) :
  Instr.fill place cells ((i, .agg cs) :: rest) = Instr.fill place (ovlB cells off cs.toList) rest := by
 have e : (cs.zipIdx).foldl (fun c (x : Value × Nat) => c.setIfInBounds (off + x.2) x.1) cells = ovlB cells off cs.toList := by
  unfold ovlB
  rw [← Array.foldl_toList, Array.toList_zipIdx]
 have hc : (Value.agg cs).cells = cs := rfl
 have hn : ¬ ((decide ((Value.agg cs).cells.size ≠ size) || decide (off + (Value.agg cs).cells.size > cells.size)) = true) := by
  rw [hc, hs]
  simp
  omega
 rw [Instr.fill, hp]
 simp only []
 rw [if_neg hn, hc]
 exact congrArg (fun c => Instr.fill place c rest) e
theorem fill_two (cells a b : Array Value) (n : Nat) (hc : cells.size = 2 * n) (ha : a.size = n) (hb : b.size = n) : Instr.fill (fun i => some (i * n, n)) cells [(0, .agg a), (1, .agg b)] = some (a ++ b) := by
 have hs : (ovlB cells 0 a.toList).size = 2 * n := by
  unfold ovlB
  rw [(ovlB_fold 0 a.toList 0 cells).1, hc]
 have hres : ovlB (ovlB cells 0 a.toList) n b.toList = a ++ b := by
  unfold ovlB
  obtain ⟨h1, h2, h3⟩ := ovlB_fold 0 a.toList 0 cells
  obtain ⟨k1, k2, k3⟩ := ovlB_fold n b.toList 0 ((a.toList.zipIdx 0).foldl (fun cs (x : Value × Nat) => cs.setIfInBounds (0 + x.2) x.1) cells)
  simp only [Array.length_toList, Nat.add_zero] at h1 h2 h3 k1 k2 k3
  refine Array.ext_getElem? fun j => ?_
  rcases Nat.lt_or_ge j n with hj | hj
  ·rw [k2 j (.inl hj), Array.getElem?_append_left (by omega)]
   have := h3 (by omega) j (by omega)
   simpa using this
  ·rcases Nat.lt_or_ge j (2 * n) with hj2 | hj2
   ·rw [Array.getElem?_append_right (by omega)]
    have := k3 (by rw [h1]; omega) (j - n) (by omega)
    rw [show n + (j - n) = j by omega] at this
    rw [this, ha]
    simp
   ·rw [Array.getElem?_eq_none (by rw [k1, h1]; omega), Array.getElem?_eq_none (by simp; omega)]
 rw [fill_step _ cells a 0 0 n _ (by simp) ha (by omega), fill_step _ _ b 1 n n _ (by simp) hb (by omega), Instr.fill, hres]
theorem run_twoG {T e : TypeId} {ie : TypeInfo} {z : Value} {n : Nat} (hT : Tryz.prog.underlying T = some (.slice e)) (hie : Tryz.prog.info? e = some ie) (hz : ie.zero = some z) (hn : ie.size = n) (hn0 : 0 < n) (hn1 : n ≤ 1000) (w : World) (a b : Array Value) (ha : a.size = n) (hb : b.size = n) {o : Oper} {ρ : Operand → Value} (x y : Operand) (ho : o.op = .buildSlice T 2 #[(0, x), (1, y)]) (hx : ρ x = .agg a) (hy : ρ y = .agg b) :
  (execOp ρ o).run Tryz.prog w = .ok (.value (.slice (some ⟨w.heap.size, 0, none⟩) 2 2)) (w.alloc (.cells (a ++ b) e)) := by
 have h1 := run_buildSlice (P := Tryz.prog) w T e 2 #[(0, .agg a), (1, .agg b)] (a ++ b) ie z hT hie hz (by rw [hn]; omega) (by rw [hn]; omega) (by rw [hn]; exact fill_two _ _ _ n (by simp) ha hb)
 unfold execOp
 simp only [ho, Sem.run_bind, List.map_toArray, List.map_cons, List.map_nil, hx, hy, h1, Result.andThen_ok]
 rfl
def jnL (os : List Gro3) (i : Nat) : List Pc := mergeL ((os.getD i gr0).l ++ (os.getD (i + 1) gr0).l)
def FreshO (os : List Gro3) (ep n : Nat) : Prop := ∀ j, j < n → ep ≤ (os.getD j gr0).ep
def LateO (os : List Gro3) (h : Int) (n : Nat) : Prop := ∀ j, j < n → earlyB h (os.getD j gr0).l = false
def WideO (os : List Gro3) (n : Nat) : Prop := ∀ j, j < n → 32 < (jnL os j).length
inductive NxD (os : List Gro3) (ep : Nat) (h : Int) : List (List Nat) → List Pc → Bool → Prop
 | stale (i : Nat) (hi : i < os.length) (hf : FreshO os ep i) (hs : (os.getD i gr0).ep < ep) : NxD os ep h [(os.getD i gr0).nn] (keptL h (os.getD i gr0).l) true
 | early (hf : FreshO os ep os.length) (i : Nat) (hi : i < os.length) (hl : LateO os h i) (he : earlyB h (os.getD i gr0).l = true) : NxD os ep h [(os.getD i gr0).nn] (keptL h (os.getD i gr0).l) true
 | joint (hf : FreshO os ep os.length) (hl : LateO os h os.length) (h4 : 4 < os.length) (i : Nat) (hi : i + 1 < os.length) (hw : WideO os i) (hj : (jnL os i).length ≤ 32) : NxD os ep h [(os.getD i gr0).nn, (os.getD (i + 1) gr0).nn] (jnL os i) true
 | none (hf : FreshO os ep os.length) (hl : LateO os h os.length) (hw : os.length ≤ 4 ∨ WideO os (os.length - 1)) : NxD os ep h [] [] false
theorem least_eq {P Q : Nat → Prop} {i j : Nat} (h1 : ∀ k, k < i → P k) (h2 : Q i) (h3 : ∀ k, k < j → P k) (h4 : Q j) (hn : ∀ k, P k → Q k → False) : i = j := by
 rcases Nat.lt_trichotomy i j with h | h | h
 ·exact absurd h2 (fun h5 => hn i (h3 i h) h5)
 ·exact h
 ·exact absurd h4 (fun h5 => hn j (h1 j h) h5)
theorem NxD.uniq {os : List Gro3} {ep : Nat} {h : Int} {g g' : List (List Nat)} {m m' : List Pc} {b b' : Bool} (x : NxD os ep h g m b) (y : NxD os ep h g' m' b') : g = g' ∧ m = m' ∧ b = b' := by
 cases x with
 | stale i hi hf hs =>
  cases y with
  | stale j hj hf' hs' =>
   obtain rfl : i = j := least_eq (P := fun k => ep ≤ (os.getD k gr0).ep) (Q := fun k => (os.getD k gr0).ep < ep) hf hs hf' hs' (fun k a b => by omega)
   exact ⟨rfl, rfl, rfl⟩
  | early hf' => have := hf' i hi; omega
  | joint hf' => have := hf' i hi; omega
  | none hf' => have := hf' i hi; omega
 | early hf i hi hl he =>
  cases y with
  | stale j hj hf' hs' => have := hf j hj; omega
  | early hf' j hj hl' he' =>
   obtain rfl : i = j := least_eq (P := fun k => earlyB h (os.getD k gr0).l = false) (Q := fun k => earlyB h (os.getD k gr0).l = true) hl he hl' he' (fun k a b => by rw [a] at b; cases b)
   exact ⟨rfl, rfl, rfl⟩
  | joint hf' hl' => have := hl' i hi; rw [this] at he; cases he
  | none hf' hl' => have := hl' i hi; rw [this] at he; cases he
 | joint hf hl h4 i hi hw hj =>
  cases y with
  | stale j hj hf' hs' => have := hf j hj; omega
  | early hf' j hj hl' he' => have := hl j hj; rw [this] at he'; cases he'
  | joint hf' hl' h4' j hj' hw' hjj =>
   obtain rfl : i = j := least_eq (P := fun k => 32 < (jnL os k).length) (Q := fun k => (jnL os k).length ≤ 32) hw hj hw' hjj (fun k a b => by omega)
   exact ⟨rfl, rfl, rfl⟩
  | none hf' hl' hw' =>
   rcases hw' with h5 | h5
   ·omega
   ·have := h5 i (by omega); omega
 | none hf hl hw =>
  cases y with
  | stale j hj hf' hs' => have := hf j hj; omega
  | early hf' j hj hl' he' => have := hl j hj; rw [this] at he'; cases he'
  | joint hf' hl' h4' j hj' hw' hjj =>
   rcases hw with h5 | h5
   ·omega
   ·have := h5 j (by omega); omega
  | none => exact ⟨rfl, rfl, rfl⟩
theorem getD_memO {os : List Gro3} {i : Nat} (hi : i < os.length) : os.getD i gr0 ∈ os := by
 rw [jA, jB hi]
 exact List.getElem_mem hi
theorem keptL_mem {h : Int} {l : List Pc} {p : Pc} (hp : p ∈ keptL h l) : p ∈ l := (List.mem_filter.1 hp).1
theorem NxD.pcs {os : List Gro3} {ep : Nat} {h : Int} {g : List (List Nat)} {m : List Pc} {b : Bool} (x : NxD os ep h g m b) (R : Pc → Prop) (hR : ∀ g ∈ os, ∀ p ∈ g.l, R p) : ∀ p ∈ m, R p := by
 intro p hp
 cases x with
 | stale i hi => exact hR _ (getD_memO hi) p (keptL_mem hp)
 | early _ i hi => exact hR _ (getD_memO hi) p (keptL_mem hp)
 | joint _ _ _ i hi =>
  rcases List.mem_append.1 (merge_sub _ p hp) with h | h
  ·exact hR _ (getD_memO (show i < os.length by omega)) p h
  ·exact hR _ (getD_memO hi) p h
 | none => cases hp
theorem NxD.len {os : List Gro3} {ep : Nat} {h : Int} {g : List (List Nat)} {m : List Pc} {b : Bool} (x : NxD os ep h g m b) (hl : ∀ g ∈ os, g.l.length ≤ 32) : m.length ≤ 32 := by
 cases x with
 | stale i hi => exact Nat.le_trans (keptL_len _ _) (hl _ (getD_memO hi))
 | early _ i hi => exact Nat.le_trans (keptL_len _ _) (hl _ (getD_memO hi))
 | joint _ _ _ i hi _ hj => exact hj
 | none => exact Nat.zero_le _
theorem NxD.nns {os : List Gro3} {ep : Nat} {h : Int} {g : List (List Nat)} {m : List Pc} {b : Bool} (x : NxD os ep h g m b) (hn : ∀ g ∈ os, g.nn.length = 12 ∧ ∀ c ∈ g.nn, c < 256) : g.length ≤ 2 ∧ ∀ n ∈ g, n.length = 12 ∧ ∀ c ∈ n, c < 256 := by
 cases x with
 | stale i hi =>
  refine ⟨by simp, fun n hm => ?_⟩
  rw [List.mem_singleton.1 hm]; exact hn _ (getD_memO hi)
 | early _ i hi =>
  refine ⟨by simp, fun n hm => ?_⟩
  rw [List.mem_singleton.1 hm]; exact hn _ (getD_memO hi)
 | joint _ _ _ i hi =>
  refine ⟨by simp, fun n hm => ?_⟩
  rcases List.mem_cons.1 hm with rfl | hm
  ·exact hn _ (getD_memO (show i < os.length by omega))
  ·rw [List.mem_singleton.1 hm]; exact hn _ (getD_memO hi)
 | none => exact ⟨by simp, fun n hm => by cases hm⟩
def oG (kf : Nat → Option (List Nat)) (b : Bxo) : Gro3 := ⟨b.nn, b.ep, mergeL (opB kf b)⟩
theorem oG_getD (kf : Nat → Option (List Nat)) (bs : List Bxo) {i : Nat} (hi : i < bs.length) : (bs.map (oG kf)).getD i gr0 = oG kf (bs.getD i bo0) := by
 rw [jA, jA, List.getElem?_map, jB hi]
 rfl
theorem of_shelvedG {gs : List (List Pc)} {es : List Nat} (hp : ∀ i, ∀ p ∈ grS gs i, PcOk p ∧ p.s.size ≤ 9223372036854775807) : ∀ n, (∀ i, i < n → OkS gs es i) → (ofT tenT (bxsS gs es n)).map (oG kf3) = grsS gs es n
 | 0, _ => rfl
 | n + 1, h => by
  have ih := of_shelvedG hp n (fun i hi => h i (by omega))
  obtain ⟨ho, hb, hk⟩ := bxS_opok (h n (by omega)) (hp n)
  rw [bxsS_succ, grsS_succ]
  by_cases h2 : 200 ≤ es.getD n 0
  ·rw [if_pos h2, ofT_snoc_no (show ((bxS gs es n).t.toList == tenT.toList) = false by
    show ((tnS es n).toList == tenT.toList) = false
    unfold tnS
    rw [if_pos h2]
    decide +kernel)]
   exact ih
  ·rw [if_neg h2, ofT_snoc_yes (show ((bxS gs es n).t.toList == tenT.toList) = true by
    show ((tnS es n).toList == tenT.toList) = true
    unfold tnS
    rw [if_neg h2]
    decide +kernel), List.map_append, ih]
   simp only [List.map_cons, List.map_nil]
   congr 2
   unfold oG gS
   rw [hb, show mergeL (grS gs n) = grS gs n from by have h := merge_ahead (gs.getD n []) []; rwa [List.append_nil, List.append_nil] at h]
   rfl
end Go.Proofs.YtfnhmnbcponkfaaGreatDoor
namespace Go.Proofs.YtfnhmnbcponkfaaGreatDoor
open Go.ChangeShapes Go.WideShapes Go.ChangeAt Go.RowKit
theorem bulk_one {H : Type} (d : DataW H) : 1 ≤ Rows.uptoBulk d := by
 cases d with
 | lit l => cases l <;> simp [Rows.uptoBulk]
 | nil => simp [Rows.uptoBulk]
 | ptr d => simp [Rows.uptoBulk]
 | slice elems spare => simp [Rows.uptoBulk]
 | agg parts => simp [Rows.uptoBulk]
 | iface t d => simp [Rows.uptoBulk]
 | map entries => simp [Rows.uptoBulk]
 | held h => simp [Rows.uptoBulk]
theorem bulk_len {H : Type} (l : List (DataW H)) : l.length ≤ Rows.uptoBulkAll l := by
 induction l with
 | nil => simp [Rows.uptoBulkAll]
 | cons x r ih => have := bulk_one x; simp only [Rows.uptoBulkAll, List.length_cons]; omega
theorem bulk_part {H : Type} {d : DataW H} {l : List (DataW H)} (h : d ∈ l) : Rows.uptoBulk d ≤ Rows.uptoBulkAll l := by
 induction l with
 | nil => cases h
 | cons x r ih =>
  simp only [Rows.uptoBulkAll]
  cases List.mem_cons.1 h with
  | inl e => subst e; omega
  | inr e => have := ih e; omega
theorem row_bulk {H : Type} {enc : TypeId × Value → H} {W : World} {t e : TypeId} {A : Option Addr} {n c : Nat} {d : DataW H} {p : List MemPlace} (ht : Tryz.prog.underlying t = some (.slice e))
  (h : DataW.Trod enc Tryz.prog W 0 (fun _ => true) true t (.slice A n c) d p) : n ≤ Rows.uptoBulk d := by
 obtain ⟨fuel, hf⟩ := h
 rcases DataW.trod_slice ht hf with ⟨hcs, _⟩ | ⟨a, len', cap', elems, rest, m, _, hcs, hx, hb, hl, hm, hlen, helem, _, _⟩
 ·simp [Value.cells] at hcs
  omega
 ·simp [Value.cells] at hcs
  obtain ⟨rfl, rfl, rfl⟩ := hcs
  injection hx with hx _
  subst hx
  have := bulk_len (elems.map (·.1))
  rw [List.length_map] at this
  simp only [Rows.uptoBulk]
  omega
theorem witnessU {H : Type} {enc : TypeId × Value → H} {os : Os} {f : FuncId} {fn : Func} {s : OpenSpec} {conds : List PathCond} {laid : List (String × DataW Unit)} (w0 : World) (args : Array Value) (hos : w0.os = os)
  (hsh : (w0.forCall (fun _ _ => 0) ⟨#[], args, []⟩).Shaped Tryz.checked.prog)
  (hok : Input.okWideB Tryz.checked.prog (w0.forCall (fun _ _ => 0) ⟨#[], args, []⟩) f ⟨#[], args, []⟩ = true)
  (hrow : s.preRow enc Tryz.checked.prog fn conds false laid (w0.forCall (fun _ _ => 0) ⟨#[], args, []⟩).memory args) :
  ∃ (w : World) (tape : Tape) (i : Input), w.os = os ∧ (w.forCall tape i).Shaped Tryz.checked.prog ∧ i.vars = [] ∧ Input.okWide Tryz.checked.prog (w.forCall tape i) .any w.heap.size f i ∧
   s.preRow enc Tryz.checked.prog fn conds false laid (w.forCall tape i).memory i.args ∧ ({} : Assume).holds Tryz.checked.prog (lone (Frame.enter Tryz.checked.prog f i.args .normal) [] (w.forCall tape i)) :=
 ⟨w0, fun _ _ => 0, ⟨#[], args, []⟩, hos, hsh, (Input.okWide_of_okWideB (base := 0) hok).1, (Input.okWide_of_okWideB hok).2, hrow, by
  simp only [Assume.holds]
  exact ⟨by simp, by simp, by simp, by simp, by simp⟩⟩
theorem liftQU {os : Os} (started : os.Started) {H : Type} {enc : TypeId × Value → H} (F : Stop.Interp) (f : FuncId) {fn : Func} {s : ChangeSpec}
  (noInit : Tryz.checked.prog.inits.idxOf? f = none) (hfn : Tryz.checked.prog.funcs[f]? = some fn) (hs : LawSpec s fn.params.toList.length) (hres : fn.resultTypes = #[4])
  (hts : ∀ t ∈ fn.params.toList, Tryz.prog.readableRec t = true ∧ t < Tryz.prog.types.size)
  (witness : ∃ (w : World) (tape : Tape) (i : Input), w.os = os ∧ (w.forCall tape i).Shaped Tryz.checked.prog ∧ i.vars = [] ∧ Input.okWide Tryz.checked.prog (w.forCall tape i) .any w.heap.size f i ∧
   (Rows.OpenSpec.upto s).preRow enc Tryz.checked.prog fn [] false laidQ (w.forCall tape i).memory i.args ∧ ({} : Assume).holds Tryz.checked.prog (lone (Frame.enter Tryz.checked.prog f i.args .normal) [] (w.forCall tape i)))
  (walk : ∀ (W : World) (base : Nat) (args : Array Value) (ds : List (DataW H)) (ps : List MemPlace), QuartersAt W → Rows.uptoBulkAll ds ≤ 1048576 →
   (∀ (j : Nat) t v, fn.params[j]? = some t → args[j]? = some v → Value.okWide Tryz.prog W .any base t v) →
   DataW.TrodAll enc Tryz.prog W 0 (fun _ => true) true fn.params.toList args.toList ds ps → (∀ x ∈ ps, x.block < W.heap.size) → Calls Tryz.prog f args W (Yes W)) :
  ReturnsInHanded {} Tryz.checked os f .any ((Rows.OpenSpec.upto s).preRow enc Tryz.prog fn [] false laidQ) (((Rows.OpenSpec.upto s).at F).post enc Tryz.prog fn false true false false) := by
 refine returnsInHanded_of_row (C := Tryz.checked) (s := Rows.OpenSpec.upto s) own started noInit hfn witness ?_
 intro W base args ds gs before hval hW _ hk _ hL _ _
 have hk2 := hk _ rfl
 have hW2 : DataW.Whole enc Tryz.prog fn.params.toList s.vars false W args.toList ds gs before := hW
 have hW' := hW2
 have hlt : ∀ p ∈ before, p.block < W.heap.size := fun p hp => hW2.lt p hp
 obtain ⟨p, q, hA, hV, hbef, hfz, hnd⟩ := hW2
 rw [hs.1] at hV
 obtain ⟨rfl, rfl⟩ := trodVars_none hV
 rw [List.append_nil] at hbef
 subst hbef
 have hbulk : Rows.uptoBulkAll ds ≤ 1048576 := by
  rw [List.append_nil] at hk2
  simpa [Rows.uptoSmall] using hk2
 refine (walk W base args ds _ (of_laidQ hL) hbulk hval hA hlt).mono fun e W' ⟨he, bel⟩ => ?_
 subst he
 have hlen := trodAll_length _ _ _ _ hA
 have hfn' := hs.2 H ds hlen
 refine ⟨_, rfl, ?_⟩
 show s.post enc Tryz.prog fn false true false false W args _ W'
 refine ⟨ds, [], before, [], before, [], hW', ?_, ?_, ?_, bel.frame _, fun h => by cases h⟩
 ·rw [List.append_nil, hfn', hres]
  exact trodAll_mk1 (shut_bool Tryz.underlying4 _)
 ·rw [List.append_nil, hfn']
  exact trodAll_below laidOut bel _ _ _ _ hts hA hlt
 ·rw [List.append_nil, hfn', hs.1]; rfl
end Go.Proofs.YtfnhmnbcponkfaaGreatDoor
