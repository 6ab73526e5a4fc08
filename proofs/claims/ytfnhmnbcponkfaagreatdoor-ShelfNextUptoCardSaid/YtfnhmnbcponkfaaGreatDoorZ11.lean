/- Parts, one behind the other: Mv2 SrK Gro LouG Df2G Srt1 Mv3 Mm0 Mm1 Bl7 Bl3 Bk4 Pa1 Pa2 Bk1. -/
import Derived.Test.YtfnhmnbcponkfaaGreatDoorZ10
import Derived.RangeFuncBox
import Derived.Shelf.SlSortCmp.InsertionK
import Derived.Sort.Grow
import Derived.Deep.MidRow
import Derived.BigQuiet
import Derived.StillTailTactics
import Derived.Shelf.SlSortCmp.WholeK
import Derived.Shelf.SlSortCmp.NoneTotal
import Derived.WalkMore
import Derived.Maps.Keyed
set_option maxRecDepth 100000
set_option linter.unusedVariables false
set_option linter.unusedSimpArgs false
set_option maxHeartbeats 16000000
namespace Go.Proofs.YtfnhmnbcponkfaaGreatDoor
open Go.RowKit
attribute [local go_sem] Oper.semAt_some
def ColI (w : World) (pre : List Pc) (W : World) : Prop := (∃ v, Boxed W w.heap.size 31 v ∧ W.ownsRow w.heap.size 77 5 v pre.length (pcs pre)) ∧ Below w.heap.size w W
def colA (sv : Value) (B g : Nat) (x : Pc) : Act := { tmps := #[.slice none 0 0, sv, .pointer (some ⟨B, 0, none⟩), undef, .slice none 0 0, .pointer (some ⟨g, 0, none⟩), sv, .agg (pcV x), undef, undef, undef, undef, undef], defers := [] }
def ColI2 (w : World) (sv : Value) (pre : List Pc) (x : Pc) (a1 : Act) (W : World) : Prop := ColI w pre W ∧ ∃ g, a1 = colA sv w.heap.size g x ∧ Blk W g 77 (pcV x)
theorem ColI.own (w : World) (B : Nat) (hB : w.heap.size ≤ B) : OwnFrom B (ColI w) := fun s W W' row h hg hr => by
 obtain ⟨⟨v, h1, h2⟩, h3⟩ := h
 have h4 := holdsRow_own (β := Unit) w.heap.size w.heap.size 31 77 5 (fun _ => s.length) (fun _ => pcs s) (fun _ _ => True) () W W' row ⟨v, h1, h2, trivial⟩ hg (fun r e => (hr r e).2)
 obtain ⟨v', h5, h6, _⟩ := h4
 exact ⟨⟨v', h5, h6⟩, h3.grown hg h3.size (fun k e => Nat.le_trans hB (hr k e).1)⟩
theorem ColI2.own (w : World) (sv : Value) (B : Nat) (hB : w.heap.size ≤ B) (pre : List Pc) (x : Pc) (a1 : Act) : OwnFrom B (fun (_ : Unit) W => ColI2 w sv pre x a1 W) := fun s W W' row h hg hr => by
 obtain ⟨h1, g, h2, h3⟩ := h
 refine ⟨ColI.own w B hB pre W W' row h1 hg hr, g, h2, (hg.block g h3.lt (fun e => ?_)).trans h3⟩
 obtain ⟨_, o, ho, hc⟩ := hr g e.symm
 rw [show W.heap[g]? = _ from h3] at ho
 injection ho with ho
 subst ho
 cases hc
theorem appendSeq_in (n b nn : Nat) (M : List Pc) (hn : 3 ≤ n) (hnn : nn ≤ 1000000) (Bm : Nat) (w : World) (hlt : Bm < w.heap.size) (hm : w.cell? ⟨Bm, 0, none⟩ = some (.map (some b))) (hown : MapAt w b nn M) :
  CallsIn Fence.wide n Tryz.prog 88 #[.slice none 0 0, .func (.func 66) #[] #[.pointer (some ⟨Bm, 0, none⟩)]] w fun e w' =>
   ∃ (v : Value) (ss : List Pc), e = .returned v ∧ (ss.Nodup ∧ ∀ p, p ∈ ss ↔ p ∈ M) ∧ w'.ownsRow w.heap.size 77 5 v ss.length (pcs ss) ∧ Below w.heap.size w w' := by
 obtain ⟨i0, hi0, hi1, hi2, hi3⟩ := piece_parts
 have zf := zero_pc
 have zs1 : zPc.size = 5 := by rfl
 have zs2 : ¬ zPc = #[] := by intro h; have := congrArg Array.size h; rw [zs1] at this; cases this
 have hst := vals_stops (n - 1) Bm b nn M (by omega) w hlt hm hown
 have HST := Li hst
 clear hst
 refine callsIn_of_wp_marks Tryz.func88 rfl trivial ?_ rfl
 simp only [Tryz.ntmps88, List.size_toArray, List.length_cons, List.length_nil, Nat.reduceAdd, Nat.reduceSub, Array.replicate_succ, Array.replicate_zero, List.push_toArray, List.append_toArray, List.nil_append, List.cons_append]
 gi_wp2
 obtain ⟨Z, hZ⟩ : ∃ Z, Z = w.alloc (Obj.cells #[.slice none 0 0] 31) := ⟨_, rfl⟩
 have hzs : Z.heap.size = w.heap.size + 1 := by rw [hZ]; simp
 have hb0 : Below w.heap.size w Z := by rw [hZ]; exact (jE _ _).alloc (jD _) _
 have hbx : Boxed Z w.heap.size 31 (.slice none 0 0) := by rw [hZ]; exact Boxed.new _ _ _
 rw [← hZ]
 clear hZ
 refine wpIn_rangeFunc_asg (n := n) (by omega) (gf := 66) (lb := #[.pointer (some ⟨Bm, 0, none⟩)]) rfl (enters_of Tryz.func66 (by kernel_rfl) rfl)
  HST.out (fun h1 h2 => h1.trans h2) (fun W l o o' _ h _ hw => KeepsWalks.putObj _ h hw) hb0 (fun _ => rfl)
  (ColI w) (ColI2 w (.func (.func 66) #[] #[.pointer (some ⟨Bm, 0, none⟩)])) (ColI.own w _ (by omega)) (ColI2.own w _ _ (by omega)) ⟨⟨_, hbx, ⟨rfl, .inl ⟨rfl, rfl⟩⟩⟩, hb0⟩ ?assign ?body ?done
 case assign =>
  intro l pre x W K hI hlen hK
  have HK := Li hK
  have HI := Li hI
  clear hK hI
  gi_wp2_with (first
   | (refine wpListIn_storeP rfl 77 (.tmp 5) (.tmp 7) rfl rfl W.heap.size (pcV x) rfl rfl 77 zPc (by exact heap_alloc_new _ _) (pcInfo x) rfl (pcV_one x) ?_)
   | gi_in)
  obtain ⟨h1, h2⟩ := new_rowP W 77 zPc (pcV x)
  refine HK.out _ _ (KeepsOthers.of_grownBy (grown_none h2) (fun j o e ho => by cases e)) (KeepsWalks.of_grownBy (grown_none h2) (fun j o e ho => by cases e)) ⟨ColI.own w Z.heap.size (by omega) pre W _ none HI.out (grown_none h2) (fun r e => by cases e), W.heap.size, rfl, h1⟩
 case body =>
  rintro l pre x a1 W ⟨⟨⟨v, hv, hrow⟩, hbw⟩, g, rfl, hg⟩ hlen
  have hc2 := hv.cell
  have hf2 := hv.frozen
  have HV := Li hv
  have HROW := Li hrow
  have HBW := Li hbw
  have HG := Li hg
  have hl1 : pre.length + 1 ≤ 1000000 := by omega
  have HL := Li hl1
  unfold colA
  clear hv hrow hbw hg hl1
  gi_wp2_with (first
   | (refine wpListIn_loadP rfl 77 (.tmp 5) rfl ⟨g, 0, none⟩ rfl (pcL x) _ (atA_blk HG.out) Tryz.underlying77 rfl (pcLn x) ?_)
   | (refine wpListIn_run rfl rfl (fun c hc => by cases hc) (.slice (some ⟨W.heap.size, 0, none⟩) 1 1) (W.alloc (.cells (pcV x) 77)) (run_onePc W x (.tmp 9) rfl rfl) ?_)
   | (gi_at_builtin
      refine wpListIn_append_own _ rfl _ _ 31 rfl w.heap.size 77 i0 (.agg zPc) 5 48 Tryz.underlying31 hi0 hi1 hi2 hi3 zs1 (by decide) _ _ _ rfl (World.ownsRow.alloc HROW.out _) ⟨W.heap.size, 0, none⟩ 1 1 (pcL x) rfl rfl (atA_blk (Blk.new W _ _)) (by intro u hu; exact pcs_oneCell [x] u (by simpa [pcs_cons, pcs_nil] using hu)) (by have := HL.out; unfold maxLen; omega) (by have := HL.out; omega) (by have := HBW.out.size; simp; omega) ?_
      intro v' w3 hown' hg3 hnil3
      obtain ⟨hb1, hb2, hb3, hb4, hb5⟩ := Boxed.appended HV.out (show 31 ≠ 77 by decide) HROW.out HBW.out.size (jD _) hown' hg3
      obtain ⟨g', cap', rfl⟩ := ownsRow_succ hown'
      have hc3 := hb1.cell
      have hf3 := hb1.frozen
      have R2 := Li hb2
      have R3 := Li hb3
      have R4 := Li hb4
      have R5 := Li hb5
      clear hb1 hb2 hb3 hb4 hb5 hg3 hnil3 hown'
      go_frame)
   | gi_in)
  refine ⟨R4.out, R4.out.walks, ⟨_, R2.out, ?_⟩, HBW.out.trans R5.out⟩
  rw [show (pre ++ [x]).length = pre.length + 1 by simp, show pcs (pre ++ [x]) = pcs pre ++ pcL x by rw [pcs_app, pcs_cons, pcs_nil, List.append_nil]]
  exact R3.out
 case done =>
  rintro D ss W hD hS ⟨⟨v, hv, hrow⟩, hbw⟩ hK
  have hc3 := hv.cell
  have hf3 := hv.frozen
  have HROW := Li hrow
  have HBW := Li hbw
  have HK := Li hK
  have HS := Li hS
  have HV := Li hv
  clear hv hrow hbw hK hS
  gi_wp2
  refine ⟨by simp, .inl ⟨_, _, rfl, run_takeDeferred HK.out, ?_⟩⟩
  refine ⟨_, results_tmp rfl _ _ _, v, ss, rfl, HS.out, ownsRow_putObj HROW.out _ HK.out rfl, HBW.out.grown (grownBy_putObj' W D _) HBW.out.size (fun k e => by cases e; omega)⟩
theorem collect_c (b nn : Nat) (M : List Pc) (hnn : nn ≤ 1000000) (Bm : Nat) (w : World) (hlt : Bm < w.heap.size) (hm : w.cell? ⟨Bm, 0, none⟩ = some (.map (some b))) (hown : MapAt w b nn M) :
  Calls Tryz.prog 64 #[.func (.func 66) #[] #[.pointer (some ⟨Bm, 0, none⟩)]] w fun e w' =>
   ∃ (v : Value) (ss : List Pc), e = .returned v ∧ (ss.Nodup ∧ ∀ p, p ∈ ss ↔ p ∈ M) ∧ w'.ownsRow w.heap.size 77 5 v ss.length (pcs ss) ∧ Below w.heap.size w w' := by
 have HC := Li ((callsIn_wide (n := 8)).1 (appendSeq_in 8 b nn M (by omega) hnn Bm w hlt hm hown))
 clear hown
 go_enter Tryz.func64, Tryz.ntmps64
 go_wp2_with (go_at_call 88; (refine HC.out.mono ?_); rintro e w2 ⟨v, ss, rfl, h1, h2, h3⟩; have R1 := Li h1; have R2 := Li h2; have R3 := Li h3; clear h1 h2 h3)
 go_ret
 exact ⟨v, ss, rfl, R1.out, R2.out, R3.out⟩
open Go.Sort (flatK size_flatK HoldsK Holds putRowK putRow putCells mapBlock onCells grow)
set_option linter.unusedSectionVars false
section
variable {α : Type} [Inhabited α] (enc : α → List Value) (k : Nat)
def flatE (l : List α) : List Value := (l.map enc).flatten
theorem flatE_cons (x : α) (l : List α) : flatE enc (x :: l) = enc x ++ flatE enc l := by simp [flatE]
theorem flatE_len (hk : ∀ x, (enc x).length = k) : ∀ l : List α, (flatE enc l).length = l.length * k
 | [] => by simp [flatE]
 | x :: l => by rw [flatE_cons, jC, hk, flatE_len hk l, List.length_cons, Nat.add_mul, Nat.one_mul, Nat.add_comm]
theorem flatE_at (hk : ∀ x, (enc x).length = k) : ∀ (l : List α) (q r : Nat), r < k → q < l.length → (flatE enc l)[q * k + r]? = (enc (l[q]!))[r]?
 | [], q, r, _, h => by simp at h
 | x :: l, 0, r, hr, _ => by
  rw [flatE_cons, Nat.zero_mul, Nat.zero_add, List.getElem?_append_left (by rw [hk]; exact hr)]
  rfl
 | x :: l, q + 1, r, hr, h => by
  rw [flatE_cons, List.getElem?_append_right (by rw [hk, Nat.add_mul]; omega), hk, show (q + 1) * k + r - k = q * k + r by rw [Nat.add_mul]; omega, flatE_at hk l q r hr (by simpa using h)]
  rfl
theorem flatK_list (hk : ∀ x, (enc x).length = k) (h0 : 0 < k) (l : List α) : flatK enc k l.toArray = (flatE enc l).toArray := by
 refine Go.Sort.ext_get! (by rw [size_flatK]; simp [flatE_len enc k hk]) fun t ht => ?_
 rw [size_flatK] at ht
 have ht' : t < l.length * k := by simpa using ht
 rw [Go.Sort.get_flatK _ _ _ t ht]
 have hq : t / k < l.length := Nat.div_lt_of_lt_mul (by rw [Nat.mul_comm]; exact ht')
 have hr : t % k < k := Nat.mod_lt _ h0
 have h1 := flatE_at enc k hk l (t / k) (t % k) hr hq
 rw [show t / k * k + t % k = t by rw [Nat.mul_comm]; exact Nat.div_add_mod t k] at h1
 have h2 : t < (flatE enc l).toArray.size := by simp [flatE_len enc k hk]; exact ht'
 rw [getElem!_pos _ t h2]
 have h3 : (flatE enc l).toArray[t] = (flatE enc l)[t]'(by simpa using h2) := by simp
 rw [h3]
 have h4 : (flatE enc l)[t]? = some ((flatE enc l)[t]'(by simpa using h2)) := jB _
 rw [h4] at h1
 have e1 : l.toArray[t / k]! = l[t / k]! := by simp
 rw [e1, List.getElem!_eq_getElem?_getD, ← h1]
 rfl
theorem holdsK_blk (hk : ∀ x, (enc x).length = k) (h0 : 0 < k) {w : World} {g : Nat} {T : TypeId} {l : List α} {rest : List Value} (h : Blk w g T (flatE enc l ++ rest).toArray) : HoldsK enc k w g 0 l.toArray := by
 intro j hj
 rw [size_flatK] at hj
 rw [flatK_list enc k hk h0]
 have hj' : j < (flatE enc l).length := by rw [flatE_len enc k hk]; simpa using hj
 refine ⟨?_, h.free _⟩
 rw [Nat.zero_add, h.cell, getElem!_pos _ j (by simpa using hj')]
 simp [List.getElem?_append_left hj', hj']
theorem sortWorld_blk (hk : ∀ x, (enc x).length = k) (h0 : 0 < k) {w : World} {g : Nat} {T : TypeId} {l : List α} {rest : List Value} (h : Blk w g T (flatE enc l ++ rest).toArray) (n : Nat) (d' : Array α) (hd : d'.size = l.length) (os : Array Obj) :
  Blk (sortWorldK enc k w g 0 n d' os) g T (flatE enc d'.toList ++ rest).toArray ∧ Only (fun i => i = g) w (sortWorldK enc k w g 0 n d' os) := by
 have hg := h.lt
 have hsz : ((putRowK enc k (Go.Sort.ahead w n) g 0 d').heap).size = w.heap.size := Go.Sort.size_putRowK enc k _ g 0 d'
 have hold : ∀ i : Nat, i < w.heap.size → (sortWorldK enc k w g 0 n d' os).heap[i]? = (putRowK enc k (Go.Sort.ahead w n) g 0 d').heap[i]? := fun i hi => by
  show ((putRowK enc k (Go.Sort.ahead w n) g 0 d').heap ++ os)[i]? = _
  rw [Array.getElem?_append_left (by rw [hsz]; exact hi)]
 have hmod : ∀ i : Nat, (putRowK enc k (Go.Sort.ahead w n) g 0 d').heap[i]? = (w.heap.modify g (onCells (putCells id 0 (flatK enc k d'))))[i]? := fun i => rfl
 refine ⟨?_, rfl, rfl, rfl, ?_, fun i hi hne => ?_⟩
 ·unfold Blk
  rw [hold g hg, hmod, Array.getElem?_modify, if_pos rfl, show w.heap[g]? = some (.cells (flatE enc l ++ rest).toArray T (0, 0)) from h]
  show some (Obj.cells _ T (0, 0)) = _
  congr 2
  obtain ⟨dl⟩ := d'
  rw [flatK_list enc k hk h0 dl]
  have hd' : dl.length = l.length := by simpa using hd
  have hl1 := flatE_len enc k hk l
  have hl2 := flatE_len enc k hk dl
  rw [hd'] at hl2
  apply Array.ext_getElem?
  intro j
  unfold putCells
  rw [Array.getElem?_mapIdx]
  simp only [List.getElem?_toArray, List.size_toArray, Nat.zero_le, true_and, Nat.zero_add, Nat.sub_zero, id]
  by_cases hj : j < l.length * k
  ·rw [List.getElem?_append_left (by omega), List.getElem?_append_left (by omega), jB (by omega), jB (by omega)]
   show some (if j < (flatE enc dl).length then _ else _) = _
   rw [if_pos (by omega)]
   simp [show j < (flatE enc dl).length by omega]
  ·rw [List.getElem?_append_right (by omega), List.getElem?_append_right (by omega), hl1, hl2]
   cases hr : rest[j - l.length * k]? with
   | none => rfl
   | some v =>
    show some (if j < l.length * k then _ else _) = _
    rw [if_neg hj]
 ·show w.heap.size ≤ ((putRowK enc k (Go.Sort.ahead w n) g 0 d').heap ++ os).size
  rw [Array.size_append, hsz]; omega
 ·rw [hold i hi, hmod, Array.getElem?_modify, if_neg (fun e => hne e.symm)]
end
structure Gro (B : Nat) (w w' : World) : Prop extends Below B w w' where
 drawn : w.drawn ≤ w'.drawn
theorem Gro.refl (B : Nat) (w : World) : Gro B w w := ⟨jE _ _, jD _⟩
theorem Gro.trans {B : Nat} {a b c : World} (h : Gro B a b) (k : Gro B b c) : Gro B a c := ⟨h.toBelow.trans k.toBelow, Nat.le_trans h.drawn k.drawn⟩
theorem Gro.mono {B B' : Nat} {w w' : World} (h : Gro B w w') (hB : B' ≤ B) : Gro B' w w' := ⟨h.toBelow.mono hB, h.drawn⟩
theorem Gro.drew {B : Nat} {a w : World} (h : Gro B a w) : Gro B a w.drew := ⟨h.toBelow.drew, Nat.le_trans h.drawn (Nat.le_succ _)⟩
theorem Gro.alloc {B : Nat} {a w : World} (h : Gro B a w) (hB : B ≤ w.heap.size) (o : Obj) : Gro B a (w.alloc o) := ⟨h.toBelow.alloc hB o, h.drawn⟩
theorem Gro.drewN {B : Nat} {a w : World} (h : Gro B a w) (n : Nat) : Gro B a (w.drewN n) := ⟨belowDrewN n h.toBelow, Nat.le_trans h.drawn (Nat.le_add_right _ _)⟩
theorem Gro.grow {w w' : World} (h : Gro w.heap.size w w') : ∃ q os, w' = Go.Sort.grow (w.drewN q) os := by
 refine ⟨w'.drawn - w.drawn, w'.heap.extract w.heap.size w'.heap.size, ?_⟩
 obtain ⟨⟨h1, h2, h3, h4, h5⟩, h6⟩ := h
 have hh : w'.heap = w.heap ++ w'.heap.extract w.heap.size w'.heap.size := by
  apply Array.ext_getElem?
  intro i
  rcases Nat.lt_or_ge i w.heap.size with hi | hi
  ·rw [Array.getElem?_append_left hi, h5 i hi]
  ·rw [Array.getElem?_append_right hi, Array.getElem?_extract]
   by_cases h8 : i - w.heap.size < min w'.heap.size w'.heap.size - w.heap.size
   ·rw [if_pos h8, show w.heap.size + (i - w.heap.size) = i by omega]
   ·rw [if_neg h8, Array.getElem?_eq_none (by omega)]
 obtain ⟨a, b, c, d, e⟩ := w'
 simp only at *
 subst h1 h2 h3
 unfold Go.Sort.grow
 show World.mk _ _ _ _ _ = World.mk _ _ _ _ _
 congr 1
 show c = w.drawn + (c - w.drawn)
 omega
def ExtG (w0 : World) : Type := {w : World // Gro w0.heap.size w0 w}
instance (w0 : World) : Nonempty (ExtG w0) := ⟨⟨w0, Gro.refl _ _⟩⟩
def ExtG.wd {w0 : World} (x : ExtG w0) : World := x.1
theorem ExtG.bel {w0 : World} (x : ExtG w0) : Gro w0.heap.size w0 x.wd := x.2
section
variable {P : Program} {ops : Array Oper} {md : Region.Mode} {Z : World} {ls : List Tmp} {V : Tmp → Value → World → Prop}
def SimAt_g (ls : List Tmp) (V : Tmp → Value → World → Prop) (b a : Act) (w : World) (k : Tmp) : Prop :=
 (ls.contains k = true → b.eval (.tmp k) = tok → V k (a.eval (.tmp k)) w) ∧ (ls.contains k = false → a.eval (.tmp k) = b.eval (.tmp k))
structure Sim_g (ls : List Tmp) (V : Tmp → Value → World → Prop) (b a : Act) (w : World) : Prop where
 de : a.defers = b.defers
 sz : a.tmps.size = b.tmps.size
 at_ : ∀ k, SimAt_g ls V b a w k
def LoudUpon_g (P : Program) (ls : List Tmp) (V : Tmp → Value → World → Prop) (dst : Option Tmp) (w : World) (v : Value) : Result Next → Prop
 | .ok (.value u) w' => (w' = w ∧ u = v ∧ ∀ d, dst = some d → ls.contains d = false) ∨ (Gro w.heap.size w w' ∧ ∀ d, dst = some d → ls.contains d = true ∧ V d u w')
 | .ok (.enter f args) w' => w' = w ∧ Calls P f args w (fun e w'' => ∃ u, e = .returned u ∧ Gro w.heap.size w w'' ∧ ∀ d, dst = some d → (ls.contains d = true → V d u w'') ∧ (ls.contains d = false → u = v))
 | _ => False
def LQ_g (P : Program) (ops : Array Oper) (Z : World) (ls : List Tmp) (V : Tmp → Value → World → Prop) (o : Oper) (b : Act) (v : Value) : Prop :=
 ∀ a w, Gro Z.heap.size Z w → (∀ k ∈ o.looksAt ops, SimAt_g ls V b a w k) → LoudUpon_g P ls V o.dst w v ((execOp a.eval o).run P w)
theorem LQ_g.put {o : Oper} {b : Act} {v u : Value} {dst : Option Tmp} (h : ∀ d, dst = some d → d ∉ o.looksAt ops) (hq : LQ_g P ops Z ls V o b v) : LQ_g P ops Z ls V o (b.put dst u) v := fun a w hC hs =>
 hq a w hC fun k hk => by
  have := hs k hk
  unfold SimAt_g at *
  rw [Act.eval_put (a := b) (dst := dst) (v := u) (x := .tmp k) (fun d hd he => h d hd (by injection he with he; rw [← he]; exact hk))] at this
  exact this
theorem LQ_g.unput {o : Oper} {b : Act} {v u : Value} {dst : Option Tmp} (h : ∀ d, dst = some d → d ∉ o.looksAt ops) (hq : LQ_g P ops Z ls V o (b.put dst u) v) : LQ_g P ops Z ls V o b v := fun a w hC hs =>
 hq a w hC fun k hk => by
  have := hs k hk
  unfold SimAt_g at *
  rw [Act.eval_put (a := b) (dst := dst) (v := u) (x := .tmp k) (fun d hd he => h d hd (by injection he with he; rw [← he]; exact hk))]
  exact this
def wpLoud_g (P : Program) (ops : Array Oper) (Z : World) (ls : List Tmp) (V : Tmp → Value → World → Prop) (Q : Act → Prop) : List Oper → Act → Prop
 | [], b => Q b
 | o :: rest, b => if Region.wanted o (yielded ops b.tmps) then ∃ v, LQ_g P ops Z ls V o b v ∧ wpLoud_g P ops Z ls V Q rest (b.put o.dst v) else wpLoud_g P ops Z ls V Q rest (b.put o.dst undef)
def lOp_g (P : Program) (ops : Array Oper) (Z : World) (ls : List Tmp) (V : Tmp → Value → World → Prop) (i : Nat) (K : Act → Prop) (b : Act) : Prop :=
 match ops[i]? with
 | none => K b
 | some o => if Region.wanted o (yielded ops b.tmps) then ∃ v, LQ_g P ops Z ls V o b v ∧ K (b.put o.dst v) else K (b.put o.dst undef)
theorem lOp_mono_g {i : Nat} {b : Act} {K K' : Act → Prop} (h : ∀ b, K b → K' b) (hh : lOp_g P ops Z ls V i K b) : lOp_g P ops Z ls V i K' b := by
 unfold lOp_g at *
 split
 ·exact h _ (by simpa [*] using hh)
 ·rename_i o ho
  simp only [ho] at hh
  split
  ·rename_i hw; simp only [hw, if_true] at hh; obtain ⟨v, h1, h2⟩ := hh; exact ⟨v, h1, h _ h2⟩
  ·rename_i hw; simp only [hw] at hh; exact h _ hh
def wpAnyL_g (P : Program) (md : Region.Mode) (ops : Array Oper) (Z : World) (ls : List Tmp) (V : Tmp → Value → World → Prop) (Q : Act → Prop) : Nat → Array Bool → Act → Prop
 | 0, listed, b => Region.ready md ops listed = [] ∧ Q b
 | fuel + 1, listed, b =>
  (Region.ready md ops listed = [] → Q b) ∧
  ∀ i ∈ Region.ready md ops listed, lOp_g P ops Z ls V i (wpAnyL_g P md ops Z ls V Q fuel (listed.setIfInBounds i true)) b
theorem eval_put_at_g (a : Act) (d : Tmp) (v : Value) (k : Tmp) : (a.put (some d) v).eval (.tmp k) = if k = d ∧ d < a.tmps.size then v else a.eval (.tmp k) := by
 by_cases h : k = d
 ·subst h
  by_cases h2 : k < a.tmps.size
  ·rw [if_pos ⟨rfl, h2⟩]
   simp [Act.put, Act.eval, h2]
  ·rw [if_neg (fun h3 => h2 h3.2)]
   simp [Act.put, Act.eval, h2]
 ·rw [if_neg (fun h3 => h h3.1)]
  exact Act.eval_put fun e he hx => h (by injection he with he; injection hx with hx; rw [hx, he])
theorem Sim_g.put {b a : Act} {w : World} (h : Sim_g ls V b a w) (dst : Option Tmp) (v u : Value) (hd : ∀ d, dst = some d → (ls.contains d = true → v = tok → V d u w) ∧ (ls.contains d = false → u = v)) : Sim_g ls V (b.put dst v) (a.put dst u) w := by
 cases dst with
 | none => exact h
 | some d =>
  obtain ⟨h1, h2⟩ := hd d rfl
  refine ⟨h.de, by simp [Act.put, h.sz], fun k => ?_⟩
  obtain ⟨s1, s2⟩ := h.at_ k
  unfold SimAt_g
  rw [eval_put_at_g, eval_put_at_g, h.sz]
  by_cases hk : k = d ∧ d < b.tmps.size
  ·rw [if_pos hk, if_pos hk]
   obtain ⟨rfl, _⟩ := hk
   exact ⟨h1, h2⟩
  ·rw [if_neg hk, if_neg hk]
   exact ⟨s1, s2⟩
theorem Sim_g.next {b a : Act} {w w' : World} (hV : ∀ k u w w', V k u w → Gro w.heap.size w w' → V k u w') (h : Sim_g ls V b a w) (hb : Gro w.heap.size w w') : Sim_g ls V b a w' :=
 ⟨h.de, h.sz, fun k => ⟨fun h1 h2 => hV k _ _ _ ((h.at_ k).1 h1 h2) hb, (h.at_ k).2⟩⟩
def guardsB_g (ops : Array Oper) (ls : List Tmp) : Bool := ops.all fun o => match o.guard with
 | none => true
 | some (g, _) => match (ops[g]?).bind (·.dst) with
  | some d => !ls.contains d
  | none => true
theorem wanted_sim_g {b a : Act} {w : World} (h : Sim_g ls V b a w) (hG : guardsB_g ops ls = true) {o : Oper} {i : Nat} (ho : ops[i]? = some o) : Region.wanted o (yielded ops a.tmps) = Region.wanted o (yielded ops b.tmps) := by
 unfold Region.wanted
 cases hg : o.guard with
 | none => rfl
 | some gw =>
  obtain ⟨g, want⟩ := gw
  have hi : i < ops.size := by
   rcases Nat.lt_or_ge i ops.size with h1 | h1
   ·exact h1
   ·rw [Array.getElem?_eq_none h1] at ho; cases ho
  have he : ops[i] = o := by rw [Array.getElem?_eq_getElem hi] at ho; injection ho
  have h1 := (Array.all_eq_true.1 hG) i hi
  rw [he, hg] at h1
  have hy : yielded ops a.tmps g = yielded ops b.tmps g := by
   unfold yielded
   cases ht : (ops[g]?).bind (·.dst) with
   | none => rfl
   | some t =>
    simp only [ht] at h1
    have h2 := (h.at_ t).2 (by simpa using h1)
    have h3 : a.tmps[t]? = b.tmps[t]? := by
     rcases Nat.lt_or_ge t b.tmps.size with h4 | h4
     ·have h5 : t < a.tmps.size := by rw [h.sz]; exact h4
      simp only [Act.eval] at h2
      rw [Array.getElem?_eq_getElem h4, Array.getElem?_eq_getElem h5]
      simpa [h4, h5] using h2
     ·rw [Array.getElem?_eq_none h4, Array.getElem?_eq_none (by rw [h.sz]; exact h4)]
    simp [h3]
  simp only [hy]
theorem loudStep_g (hV : ∀ k u w w', V k u w → Gro w.heap.size w w' → V k u w') (hG : guardsB_g ops ls = true) {Q' : Exit → Act → World → Prop} {K : Act → Prop} {K' : Act → World → Prop} (ih : ∀ b a w, Gro Z.heap.size Z w → Sim_g ls V b a w → K b → K' a w)
  {i : Nat} {b a : Act} {w : World} (hC : Gro Z.heap.size Z w) (hs : Sim_g ls V b a w) (h1 : lOp_g P ops Z ls V i K b) : wpOp P ops Q' i K' a w := by
 unfold lOp_g at h1
 unfold wpOp
 cases ho : ops[i]? with
 | none => simp only [ho] at h1 ⊢; exact ih _ _ _ hC hs h1
 | some o =>
  simp only [ho] at h1 ⊢
  rw [wanted_sim_g hs hG ho]
  split
  ·rename_i hw
   simp only [hw, if_true] at h1
   obtain ⟨v, hq, hK⟩ := h1
   refine .inl ?_
   have h2 := hq a w hC (fun k _ => hs.at_ k)
   unfold Oper.wp
   generalize (execOp a.eval o).run P w = r at *
   cases r with
   | ok n w' =>
    cases n <;> simp only [LoudUpon_g] at h2 <;> simp only [Oper.upon]
    case value u =>
     rcases h2 with ⟨rfl, rfl, h3⟩ | ⟨hb, h3⟩
     ·exact ih _ _ _ hC (hs.put _ _ _ fun d hd => ⟨fun h4 => (by rw [h3 d hd] at h4; cases h4), fun _ => rfl⟩) hK
     ·exact ih _ _ _ (hC.trans (hb.mono hC.size)) ((hs.next hV hb).put _ _ _ fun d hd => ⟨fun _ _ => (h3 d hd).2, fun h4 => (by rw [(h3 d hd).1] at h4; cases h4)⟩) hK
    case enter f args =>
     obtain ⟨rfl, hc⟩ := h2
     refine hc.mono ?_
     rintro e w'' ⟨u, rfl, hb, hd⟩
     exact ih _ _ _ (hC.trans (hb.mono hC.size)) ((hs.next hV hb).put _ _ _ fun d h3 => ⟨fun h4 _ => (hd d h3).1 h4, (hd d h3).2⟩) hK
   | halt x w' => simp only [LoudUpon_g] at h2
  ·rename_i hw
   simp only [hw] at h1
   exact ih _ _ _ hC (hs.put _ _ _ fun d hd => ⟨fun _ h4 => (by cases h4), fun _ => rfl⟩) h1
theorem wpAny_of_loud_g (hV : ∀ k u w w', V k u w → Gro w.heap.size w w' → V k u w') (hG : guardsB_g ops ls = true) {Q : Act → Prop} {Q' : Exit → Act → World → Prop} (hQ : ∀ b a w, Gro Z.heap.size Z w → Sim_g ls V b a w → Q b → Q' .normal a w) :
  ∀ (fuel : Nat) (listed : Array Bool) (b a : Act) (w : World), Gro Z.heap.size Z w → Sim_g ls V b a w → wpAnyL_g P md ops Z ls V Q fuel listed b → wpAny P md ops Q' fuel listed a w
 | 0, _, _, _, _, hC, hs, h => ⟨h.1, hQ _ _ _ hC hs h.2⟩
 | fuel + 1, listed, b, a, w, hC, hs, h => ⟨fun h0 => hQ _ _ _ hC hs (h.1 h0), fun i hi => loudStep_g hV hG (fun b a w => wpAny_of_loud_g hV hG hQ fuel _ b a w) hC hs (h.2 i hi)⟩
def YieldsL_g (P : Program) (ops : Array Oper) (Z : World) (ls : List Tmp) (V : Tmp → Value → World → Prop) (o : Oper) (v : Value) (b : Act) : Prop :=
 (Region.wanted o (yielded ops b.tmps) = true ∧ LQ_g P ops Z ls V o b v) ∨ (Region.wanted o (yielded ops b.tmps) = false ∧ v = undef)
theorem YieldsL_g.lOp {i : Nat} {o : Oper} {v : Value} {b : Act} (hi : ops[i]? = some o) (hy : YieldsL_g P ops Z ls V o v b) {K : Act → Prop} (h : K (b.put o.dst v)) : lOp_g P ops Z ls V i K b := by
 unfold Go.Proofs.YtfnhmnbcponkfaaGreatDoor.lOp_g
 simp only [hi]
 rcases hy with ⟨hw, hv⟩ | ⟨hw, rfl⟩
 ·simp only [hw, if_true]; exact ⟨v, hv, h⟩
 ·simp only [hw, Bool.false_eq_true, if_false]; exact h
theorem yieldsL_of_g {i : Nat} {o : Oper} {b : Act} {K : Act → Prop} (hi : ops[i]? = some o) (h : lOp_g P ops Z ls V i K b) : ∃ v, YieldsL_g P ops Z ls V o v b ∧ K (b.put o.dst v) := by
 unfold lOp_g at h
 simp only [hi] at h
 by_cases hw : Region.wanted o (yielded ops b.tmps) = true
 ·simp only [hw, if_true] at h
  obtain ⟨v, h1, h2⟩ := h
  exact ⟨v, .inl ⟨hw, h1⟩, h2⟩
 ·simp only [hw] at h
  exact ⟨undef, .inr ⟨by simpa using hw, rfl⟩, h⟩
theorem lOp_put_g {j : Nat} {oi oj : Oper} {v : Value} (hj : ops[j]? = some oj) (hap : oi.apart ops oj = true) {K : Act → Prop} {b : Act}
  (hy : YieldsL_g P ops Z ls V oi v b) (h : lOp_g P ops Z ls V j K (b.put oi.dst v)) : lOp_g P ops Z ls V j (fun b' => YieldsL_g P ops Z ls V oi v b' ∧ K (b'.put oi.dst v)) b := by
 obtain ⟨h1, h2, h3⟩ := Oper.apart_spec hap
 have keep : ∀ (b : Act), YieldsL_g P ops Z ls V oi v b → ∀ u, YieldsL_g P ops Z ls V oi v (b.put oj.dst u) := fun b hy u => by
  unfold YieldsL_g at *
  rw [wanted_put oi b oj.dst u h3]
  exact hy.imp (fun h => ⟨h.1, h.2.put h3⟩) id
 unfold lOp_g at *
 simp only [hj] at *
 rw [wanted_put oj b oi.dst v h1] at h
 split
 ·rename_i hw
  simp only [hw, if_true] at h
  obtain ⟨u, hu, hn⟩ := h
  exact ⟨u, hu.unput h1, keep b hy u, by rw [← Act.put_comm b v u h2]; exact hn⟩
 ·rename_i hw
  simp only [hw] at h
  exact ⟨keep b hy _, by rw [← Act.put_comm b v undef h2]; exact h⟩
theorem wpAnyL_first_g {Q : Act → Prop} {i : Nat} {oi : Oper} {v : Value} (hi : ops[i]? = some oi) :
  ∀ (fuel : Nat) (listed : Array Bool) (b : Act),
   (∀ j oj, ops[j]? = some oj → j ≠ i → listed.getD j true = false → (∀ e ∈ oj.after, Region.binds md e = true → e.on ≠ i) → oi.apart ops oj = true) →
   i ∈ Region.ready md ops listed → YieldsL_g P ops Z ls V oi v b →
   wpAnyL_g P md ops Z ls V Q fuel (listed.setIfInBounds i true) (b.put oi.dst v) → wpAnyL_g P md ops Z ls V Q (fuel + 1) listed b := by
 intro fuel
 induction fuel with
 | zero =>
  intro listed b _ hr hy H
  refine ⟨fun h => (by rw [h] at hr; cases hr), fun j hj => ?_⟩
  by_cases hji : j = i
  ·subst hji; exact hy.lOp hi H
  ·have := ready_mono hj hji
   rw [H.1] at this
   cases this
 | succ fuel ih =>
  intro listed b hfree hr hy H
  refine ⟨fun h => (by rw [h] at hr; cases hr), fun j hj => ?_⟩
  by_cases hji : j = i
  ·subst hji; exact hy.lOp hi H
  ·have h1 := H.2 j (ready_mono hj hji)
   obtain ⟨hjun, oj, hoj, hall⟩ := mem_ready.1 hj
   have hnot : ∀ e ∈ oj.after, Region.binds md e = true → e.on ≠ i := fun e he hb heq => by
    have h1 := hall e he hb
    have h0 := (mem_ready.1 hr).1
    rw [heq] at h1
    rcases Nat.lt_or_ge i listed.size with h' | h'
    ·simp [h'] at h0 h1; rw [h0] at h1; cases h1
    ·simp [Array.getElem?_eq_none h'] at h1
   have h2 := lOp_put_g hoj (hfree j oj hoj hji hjun hnot) hy h1
   have hfree' : ∀ k ok, ops[k]? = some ok → k ≠ i → (listed.setIfInBounds j true).getD k true = false →
     (∀ e ∈ ok.after, Region.binds md e = true → e.on ≠ i) → oi.apart ops ok = true := fun k ok hk hki hun hno => by
    refine hfree k ok hk hki ?_ hno
    by_cases hjk : j = k
    ·subst hjk; exact hjun
    ·rw [getD_set_ne true hjk] at hun; exact hun
   refine lOp_mono_g (fun b' h3 => ih (listed.setIfInBounds j true) b' hfree' (ready_mono hr (Ne.symm hji)) h3.1 ?_) h2
   rw [Array.setIfInBounds_comm _ _ hji]
   exact h3.2
theorem wpAnyL_lex_g {Q : Act → Prop} : ∀ (l : List Oper) (k : Nat) (listed : Array Bool) (b : Act), (∀ j, l[j]? = ops[k + j]?) →
  Region.lexFrom md ops l.length k listed = true → wpLoud_g P ops Z ls V Q l b → wpAnyL_g P md ops Z ls V Q l.length listed b
 | [], _, _, _, _, hB, h => ⟨by simpa [Region.lexFrom] using hB, h⟩
 | o :: l, k, listed, b, hl, hB, h => by
  have h0 : ops[k]? = some o := by simpa using (hl 0).symm
  simp only [List.length_cons, Region.lexFrom, Bool.and_eq_true] at hB
  obtain ⟨⟨hr, hf⟩, hB'⟩ := hB
  have hst : lOp_g P ops Z ls V k (wpLoud_g P ops Z ls V Q l) b := by unfold lOp_g; simp only [h0]; exact h
  obtain ⟨v, hy, hK⟩ := yieldsL_of_g h0 hst
  exact wpAnyL_first_g h0 l.length listed b (Region.free_spec h0 hf) (by simpa using hr) hy
   (wpAnyL_lex_g l (k + 1) _ _ (fun j => by have := hl (j + 1); simpa [Nat.add_assoc, Nat.add_comm 1 j] using this) hB' hK)
def idleB_g (a : Act) (ls : List Tmp) : Bool := ls.all fun k => !isTok (a.eval (.tmp k))
theorem idle_sim_g {a : Act} {w : World} (hI : idleB_g a ls = true) : Sim_g ls V a a w := by
 refine ⟨rfl, rfl, fun k => ⟨fun h1 h2 => ?_, fun _ => rfl⟩⟩
 have h3 := List.all_eq_true.1 hI k (by simpa using h1)
 rw [h2] at h3
 cases h3
theorem wp_region_loud_g (Z : World) (ls : List Tmp) (V : Tmp → Value → World → Prop) {id : Nat} {Q : Exit → Act → World → Prop} {a : Act} {w : World} {l : List Oper} (hm : P.follows .mixedOrders = true) (hB : Region.lexB .any l.toArray = true) (hG : guardsB_g l.toArray ls = true) (hI : idleB_g a ls = true)
  (hV : ∀ k u w w', V k u w → Gro w.heap.size w w' → V k u w') (hC : Gro Z.heap.size Z w.drew)
  (h : wpLoud_g P l.toArray Z ls V (fun b => ∀ a' w', Gro Z.heap.size Z w' → Sim_g ls V b a' w' → Q .normal a' w') l a) : (Code.region id l.toArray true).wp P Q a w := by
 simp only [Region.lexB, Bool.and_eq_true] at hB
 refine wp_region_any hm (wpAny_of_loud_g (Q := fun b => ∀ a' w', Gro Z.heap.size Z w' → Sim_g ls V b a' w' → Q .normal a' w') hV hG (fun b a w h1 h2 h3 => h3 a w h1 h2) _ _ a a _ hC (idle_sim_g hI) ?_)
 ·have := wpAnyL_lex_g (P := P) (Z := Z) (ls := ls) (V := V) (md := .any) l 0 (Array.replicate l.toArray.size false) a (by simp) (by simpa using hB.2) h
  simpa using this
def fill_g (g : Tmp → Value) : List Tmp → Act → Act
 | [], b => b
 | k :: ks, b => fill_g g ks (b.put (some k) (g k))
theorem fill_size_g (g : Tmp → Value) : ∀ (ls : List Tmp) (b : Act), (fill_g g ls b).tmps.size = b.tmps.size ∧ (fill_g g ls b).defers = b.defers
 | [], b => ⟨rfl, rfl⟩
 | k :: ks, b => by
  have := fill_size_g g ks (b.put (some k) (g k))
  exact ⟨this.1.trans (by simp [Act.put]), this.2⟩
theorem fill_eval_g (g : Tmp → Value) (k : Tmp) : ∀ (ls : List Tmp) (b : Act), k < b.tmps.size → (fill_g g ls b).eval (.tmp k) = if ls.contains k then g k else b.eval (.tmp k)
 | [], b, _ => rfl
 | j :: ks, b, hk => by
  have h1 := fill_eval_g g k ks (b.put (some j) (g j)) (by simpa [Act.put] using hk)
  show (fill_g g ks (b.put (some j) (g j))).eval (.tmp k) = _
  rw [h1, eval_put_at_g]
  by_cases h2 : k = j
  ·subst h2
   rw [if_pos (c := k = k ∧ _) ⟨rfl, hk⟩]
   simp
  ·rw [if_neg (c := k = j ∧ _) (fun h => h2 h.1)]
   have h3 : (j :: ks).contains k = ks.contains k := by
    rw [List.contains_cons]
    have h4 : (k == j) = false := by simpa using h2
    rw [h4]; rfl
   rw [h3]
theorem Sim_g.filled {b a : Act} {w : World} (h : Sim_g ls V b a w) : a = fill_g (fun k => a.eval (.tmp k)) ls b := by
 obtain ⟨s1, s2⟩ := fill_size_g (fun k => a.eval (.tmp k)) ls b
 have ht : a.tmps = (fill_g (fun k => a.eval (.tmp k)) ls b).tmps := by
  apply Array.ext
  ·rw [s1, h.sz]
  ·intro k h1 h2
   have hk : k < b.tmps.size := by rw [← h.sz]; exact h1
   have h3 := fill_eval_g (fun k => a.eval (.tmp k)) k ls b hk
   have e1 : a.tmps[k] = a.eval (.tmp k) := by simp [Act.eval, h1]
   have e2 : ∀ (c : Act) (h : k < c.tmps.size), c.tmps[k] = c.eval (.tmp k) := fun c h => by simp [Act.eval, h]
   rw [e1, e2, h3]
   cases hc : ls.contains k
   ·exact (h.at_ k).2 hc
   ·rfl
 have hd : a.defers = (fill_g (fun k => a.eval (.tmp k)) ls b).defers := by rw [s2, h.de]
 generalize fill_g (fun k => a.eval (.tmp k)) ls b = c at *
 cases a
 cases c
 simp only at ht hd
 rw [ht, hd]
theorem wpLoud_end_g {Φ : Act → World → Prop} {b : Act} (need : List Tmp) (hn : (need.all fun k => ls.contains k && isTok (b.eval (.tmp k))) = true)
  (h : ∀ (g : Tmp → Value) (x : ExtG Z), (∀ k ∈ need, V k (g k) x.wd) → Φ (fill_g g ls b) x.wd) : wpLoud_g P ops Z ls V (fun b => ∀ a' w', Gro Z.heap.size Z w' → Sim_g ls V b a' w' → Φ a' w') [] b := by
 intro a' w' hb hs
 rw [hs.filled]
 refine h _ ⟨w', hb⟩ fun k hk => ?_
 have h1 := List.all_eq_true.1 hn k hk
 rw [Bool.and_eq_true] at h1
 exact (hs.at_ k).1 h1.1 (isTok_eq h1.2)
variable {Q : Act → Prop} {b : Act} {o : Oper} {rest : List Oper}
def plainOp_g : Op → Bool
 | .move _ | .assign _ | .pick _ _ _ | .load _ _ | .binOp _ _ _ _ _ | .unOp _ _ _ | .convert _ _ _ | .fieldAddr _ _ _ | .indexAddr _ _ _ | .extract _ _ | .slice _ _ _ _ _ | .index _ _ _ | .field _ _ _ => true
 | _ => false
def quietB_g (ops : Array Oper) (ls : List Tmp) (o : Oper) : Bool := (o.looksAt ops).all (fun k => !ls.contains k) && (match o.dst with | some d => !ls.contains d | none => true)
theorem notEnter_g {α : Type} (s : Sem α) (g : α → Value) (w w' : World) (f : FuncId) (args : Array Value) : ((do pure (.value (g (← s))) : Sem Next)).run P w ≠ .ok (.enter f args) w' := by
 rw [Sem.run_bind]
 cases s.run P w with
 | ok u w1 => simp [Result.andThen]
 | halt x w1 => simp [Result.andThen]
theorem plain_run_g {ρ : Operand → Value} (hp : plainOp_g o.op = true) (w w' : World) (f : FuncId) (args : Array Value) : (execOp ρ o).run P w ≠ .ok (.enter f args) w' := by
 obtain ⟨dst, op, type, pos, after, guard⟩ := o
 cases op <;> simp only [plainOp_g] at hp <;> (try cases hp)
 case move x => simp [execOp]
 case assign x => simp [execOp]
 case pick c x y => exact notEnter_g (asBool (ρ c)) (fun t => if t then ρ x else ρ y) w w' f args
 all_goals exact notEnter_g _ (fun t => t) w w' f args
theorem simAt_eval_g {b a : Act} {w : World} (hq : quietB_g ops ls o = true) (hs : ∀ k ∈ o.looksAt ops, SimAt_g ls V b a w k) : ∀ x ∈ o.op.operands, a.eval x = b.eval x := fun x hx => by
 unfold quietB_g at hq
 rw [Bool.and_eq_true] at hq
 cases x with
 | tmp k =>
  have hk : k ∈ o.looksAt ops := List.mem_append_left _ (List.mem_filterMap.2 ⟨.tmp k, by simpa using hx, rfl⟩)
  have h1 := List.all_eq_true.1 hq.1 k hk
  exact (hs k hk).2 (by simpa using h1)
 | const v => rfl
 | global v => rfl
 | func v => rfl
theorem quietB_dst_g (hq : quietB_g ops ls o = true) : ∀ d, o.dst = some d → ls.contains d = false := fun d hd => by
 unfold quietB_g at hq
 rw [Bool.and_eq_true, hd] at hq
 simpa using hq.2
theorem wpLoud_val_g (hw : Region.wanted o (yielded ops b.tmps) = true) (hq : quietB_g ops ls o = true) (hsel : ∀ cs t, o.op ≠ .select cs t) (v : Value) (hr : ∀ x : ExtG Z, (execOp b.eval o).run P x.wd = .ok (.value v) x.wd)
  (b' : Act) (hb : b.put o.dst v = b') (h : wpLoud_g P ops Z ls V Q rest b') : wpLoud_g P ops Z ls V Q (o :: rest) b := by
 subst hb
 unfold wpLoud_g
 rw [if_pos hw]
 refine ⟨v, fun a w hC hs => ?_, h⟩
 rw [execOp_congr o hsel (simAt_eval_g hq hs), show (execOp b.eval o).run P w = .ok (.value v) w from hr ⟨w, hC⟩]
 exact .inl ⟨rfl, rfl, quietB_dst_g hq⟩
theorem wpLoud_plain_g (hw : Region.wanted o (yielded ops b.tmps) = true) (hq : quietB_g ops ls o = true) (hp : plainOp_g o.op = true)
  (h : ∀ K : Act → Prop, (∀ b, wpLoud_g P ops Z ls V Q rest b → K b) → o.quiet P b (fun w => ∃ x : ExtG Z, w = x.wd) K) : wpLoud_g P ops Z ls V Q (o :: rest) b := by
 unfold wpLoud_g
 rw [if_pos hw]
 obtain ⟨v, h1, h2⟩ := h _ (fun _ h => h)
 refine ⟨v, fun a w hC hs => ?_, h2⟩
 have hsel : ∀ cs t, o.op ≠ .select cs t := fun cs t he => by rw [he] at hp; cases hp
 have h3 := h1 w ⟨⟨w, hC⟩, rfl⟩
 rw [execOp_congr o hsel (simAt_eval_g hq hs)]
 unfold Oper.quietAt at h3
 have hne := plain_run_g (P := P) (ρ := b.eval) hp w
 have hnk : ∀ w', (execOp b.eval o).run P w ≠ .ok .skip w' := by
  obtain ⟨dst, op, type, pos, after, guard⟩ := o
  have key : ∀ {α : Type} (s : Sem α) (g : α → Value) (w' : World), ((do pure (.value (g (← s))) : Sem Next)).run P w ≠ .ok .skip w' := by
   intro α s g w'
   rw [Sem.run_bind]
   cases s.run P w with
   | ok u w1 => simp [Result.andThen]
   | halt x w1 => simp [Result.andThen]
  intro w'
  cases op <;> simp only [plainOp_g] at hp <;> (try cases hp)
  case move x => simp [execOp]
  case assign x => simp [execOp]
  case pick c x y => exact key (asBool (b.eval c)) (fun t => if t then b.eval x else b.eval y) w'
  all_goals exact key _ (fun t => t) w'
 generalize (execOp b.eval o).run P w = r at *
 cases r with
 | ok n w' =>
  cases n <;> simp only [Oper.quietUpon] at h3
  case value u => exact .inl ⟨h3.1, h3.2, quietB_dst_g hq⟩
  case skip => exact absurd rfl (hnk w')
  case enter f args => exact absurd rfl (hne w' f args)
 | halt x w' => simp only [Oper.quietUpon] at h3
theorem wpLoud_load_g (hw : Region.wanted o (yielded ops b.tmps) = true) (hq : quietB_g ops ls o = true) (ty : TypeId) (x : Operand) (ho : o.op = .load ty x) (n off : Nat) (hx : b.eval x = .pointer (some ⟨n, off, none⟩)) (cs : List Value) (d : TypeDesc)
  (hc : ∀ y : ExtG Z, y.wd.rangeAt n off cs) (hu : P.underlying ty = some d) (hd : d.isRow = true) (hi : (P.info? ty).map (·.size) = some cs.length)
  (b' : Act) (hb : b.put o.dst (.agg cs.toArray) = b') (h : wpLoud_g P ops Z ls V Q rest b') : wpLoud_g P ops Z ls V Q (o :: rest) b :=
 wpLoud_val_g hw hq (fun cs t he => by rw [ho] at he; cases he) _ (fun y => by
  unfold execOp
  simp only [ho, hx, Instr.loadAt, Instr.sureAddr, Sem.run_bind, Sem.run_pure, Result.andThen_ok, run_loadVar_mid y.wd n off ty cs d (hc y) hu hd hi]) b' hb h
theorem wpLoud_make_g (hw : Region.wanted o (yielded ops b.tmps) = true) (hsel : ∀ cs t, o.op ≠ .select cs t) (hq : ((o.looksAt ops).all fun k => !ls.contains k) = true) (d : Tmp) (hd : o.dst = some d) (hl : ls.contains d = true)
  (hr : ∀ x : ExtG Z, ∃ u w', (execOp b.eval o).run P x.wd = .ok (.value u) w' ∧ Gro x.wd.heap.size x.wd w' ∧ V d u w')
  (b' : Act) (hb : b.put o.dst tok = b') (h : wpLoud_g P ops Z ls V Q rest b') : wpLoud_g P ops Z ls V Q (o :: rest) b := by
 subst hb
 unfold wpLoud_g
 rw [if_pos hw]
 refine ⟨tok, fun a w hC hs => ?_, h⟩
 have he : ∀ x ∈ o.op.operands, a.eval x = b.eval x := fun x hx => by
  cases x with
  | tmp k =>
   have hk : k ∈ o.looksAt ops := List.mem_append_left _ (List.mem_filterMap.2 ⟨.tmp k, by simpa using hx, rfl⟩)
   exact (hs k hk).2 (by simpa using List.all_eq_true.1 hq k hk)
  | const v => rfl
  | global v => rfl
  | func v => rfl
 obtain ⟨u, w', h1, h2, h3⟩ := hr ⟨w, hC⟩
 rw [execOp_congr o hsel he, show (execOp b.eval o).run P w = .ok (.value u) w' from h1]
 exact .inr ⟨h2, fun d' hd' => by rw [hd] at hd'; injection hd' with hd'; subst hd'; exact ⟨hl, h3⟩⟩
theorem wpLoud_loadB_g (hw : Region.wanted o (yielded ops b.tmps) = true) (hq : quietB_g ops ls o = true) (ty : TypeId) (x : Operand) (ho : o.op = .load ty x) (n off : Nat) (hx : b.eval x = .pointer (some ⟨n, off, none⟩)) (cs : Array Value) (d : TypeDesc)
  (hc : ∀ y : ExtG Z, y.wd.rangeAt n off cs.toList) (hu : P.underlying ty = some d) (hd : d.isRow = true) (hi : (P.info? ty).map (·.size) = some cs.toList.length)
  (b' : Act) (hb : b.put o.dst (.agg cs) = b') (h : wpLoud_g P ops Z ls V Q rest b') : wpLoud_g P ops Z ls V Q (o :: rest) b :=
 wpLoud_load_g hw hq ty x ho n off hx cs.toList d hc hu hd hi b' (by rw [Array.toArray_toList]; exact hb) h
def over_g (ls : List Tmp) (b : Act) (g : Tmp → Value) : Operand → Value
 | .tmp k => if ls.contains k then g k else b.eval (.tmp k)
 | x => b.eval x
theorem wpLoud_call_g (d : Tmp) (hd : o.dst = some d) (need : List Tmp) (v : Value) (f : FuncId) (args : (Tmp → Value) → Array Value) (hw : Region.wanted o (yielded ops b.tmps) = true) (hsel : ∀ cs t, o.op ≠ .select cs t)
  (hn : (need.all fun k => ls.contains k && ((o.looksAt ops).contains k && isTok (b.eval (.tmp k)))) = true)
  (hrun : ∀ (g : Tmp → Value) w, (execOp (over_g ls b g) o).run P w = .ok (.enter f (args g)) w)
  (hc : ∀ (g : Tmp → Value) (x : ExtG Z), (∀ k ∈ need, V k (g k) x.wd) → Calls P f (args g) x.wd fun e w'' => ∃ u, e = .returned u ∧ Gro x.wd.heap.size x.wd w'' ∧ (if ls.contains d then V d u w'' else u = v))
  (b' : Act) (hb : b.put o.dst v = b') (h : wpLoud_g P ops Z ls V Q rest b') : wpLoud_g P ops Z ls V Q (o :: rest) b := by
 subst hb
 unfold wpLoud_g
 rw [if_pos hw]
 refine ⟨v, fun a w hC hs => ?_, h⟩
 have he : ∀ x ∈ o.op.operands, a.eval x = over_g ls b (fun k => a.eval (.tmp k)) x := fun x hx => by
  cases x with
  | tmp k =>
   have hk : k ∈ o.looksAt ops := List.mem_append_left _ (List.mem_filterMap.2 ⟨.tmp k, by simpa using hx, rfl⟩)
   show _ = if ls.contains k then _ else _
   cases hcn : ls.contains k
   ·exact (hs k hk).2 hcn
   ·rfl
  | const v => rfl
  | global v => rfl
  | func v => rfl
 rw [execOp_congr o hsel he, hrun]
 refine ⟨rfl, (hc _ ⟨w, hC⟩ fun k hk => ?_).mono ?_⟩
 ·have h1 := List.all_eq_true.1 hn k hk
  simp only [Bool.and_eq_true] at h1
  exact (hs k (by simpa using h1.2.1)).1 h1.1 (isTok_eq h1.2.2)
 ·rintro e w'' ⟨u, h1, h2, h3⟩
  refine ⟨u, h1, h2, fun d' hd' => ?_⟩
  rw [hd] at hd'
  injection hd' with hd'
  subst hd'
  exact ⟨fun h4 => by rwa [if_pos h4] at h3, fun h4 => by rwa [if_neg (by rw [h4]; exact Bool.false_ne_true)] at h3⟩
end
theorem cell_extG {Z : World} {a : Addr} {v : Value} (h : Z.cell? a = some v) : ∀ x : ExtG Z, x.wd.cell? a = some v := fun x => cell_ext h ⟨x.1, x.2.toBelow⟩
theorem IntsV.nextG {l : List Int} {u : Value} {W W' : World} (h : IntsV l u W) (hb : Gro W.heap.size W W') : IntsV l u W' := h.next hb.toBelow
theorem ids_g (n d n2 d2 : Nat) (w : World) : Calls Tryz.prog 43 #[.agg (idV n d), .agg (idV n2 d2)] w fun e w' => e = .returned (.int .i64 (cmpD n d n2 d2)) ∧ Gro w.heap.size w w' := by
 go_enter Tryz.func43, Tryz.ntmps43
 go_upto_region 1 with (first
  | (refine Go.Great.wpList_boxTo rfl 75 (.tmp 0) rfl (some 2) rfl w.heap.size rfl (idV n d) rfl ?_)
  | (refine Go.Great.wpList_boxTo rfl 75 (.tmp 1) rfl (some 3) rfl (w.heap.size + 1) (by simp) (idV n2 d2) rfl ?_))
 obtain ⟨Z, hZ⟩ : ∃ Z, Z = (w.alloc (Obj.cells (idV n d) 75)).alloc (Obj.cells (idV n2 d2) 75) := ⟨_, rfl⟩
 have H1 := show Blk Z w.heap.size 75 (idV n d) by rw [hZ]; exact (Blk.new w _ _).alloc _
 have H2 := show Blk Z (w.heap.size + 1) 75 (idV n2 d2) by rw [hZ]; exact heap2P w _ _
 have HB := Li (show Gro w.heap.size w Z by rw [hZ]; exact ((Gro.refl _ _).alloc (jD _) _).alloc (by simp) _)
 rw [← hZ]
 clear hZ
 have c0 := cell_extG (show Z.cell? ⟨w.heap.size, 0, none⟩ = some (.int .u64 (n : Int)) from (H1.cell 0).trans rfl)
 have c1 := cell_extG (show Z.cell? ⟨w.heap.size, 1, none⟩ = some (.int .u16 (d : Int)) from (H1.cell 1).trans rfl)
 have c2 := cell_extG (show Z.cell? ⟨w.heap.size + 1, 0, none⟩ = some (.int .u64 (n2 : Int)) from (H2.cell 0).trans rfl)
 have c3 := cell_extG (show Z.cell? ⟨w.heap.size + 1, 1, none⟩ = some (.int .u16 (d2 : Int)) from (H2.cell 1).trans rfl)
 clear H1 H2
 refine wp_region_loud_g Z [15] (fun _ u W => IntsV [cmpI n n2, cmpI d d2] u W) (by kernel_rfl) (by kernel_rfl) (by kernel_rfl) (by kernel_rfl) (fun _ _ _ _ h hb => h.nextG hb) (Gro.refl _ _).drew ?_
 repeat (first
  | (refine wpLoud_call_g 9 rfl [] (.int .i64 (cmpI n n2)) 61 (fun g => #[.int .u64 (n : Int), .int .u64 (n2 : Int)]) rfl (fun _ _ h => by cases h) rfl (fun g w => by kernel_rfl) (fun g z hg => by
    refine (cmp_u64 _ _ z.wd).mono ?_
    rintro e w' ⟨rfl, rfl⟩
    exact ⟨_, rfl, Gro.refl _ _, rfl⟩) _ (by simp only [Act.put, sI, sS, sZ]; rfl) ?_)
  | (refine wpLoud_call_g 14 rfl [] (.int .i64 (cmpI d d2)) 62 (fun g => #[.int .u16 (d : Int), .int .u16 (d2 : Int)]) rfl (fun _ _ h => by cases h) rfl (fun g w => by kernel_rfl) (fun g z hg => by
    refine (cmp_u16 _ _ z.wd).mono ?_
    rintro e w' ⟨rfl, rfl⟩
    exact ⟨_, rfl, Gro.refl _ _, rfl⟩) _ (by simp only [Act.put, sI, sS, sZ]; rfl) ?_)
  | (refine wpLoud_make_g rfl (fun _ _ h => by cases h) rfl 15 rfl rfl (fun y => ⟨_, _, run_ints y.wd [cmpI n n2, cmpI d d2] #[(0, .tmp 9), (1, .tmp 14)] rfl (by kernel_rfl) (by simp) (by simp), (Gro.refl _ _).alloc (jD _) _, ⟨_, rfl, Blk.new _ _ _⟩⟩) _ (by simp only [Act.put, sI, sS, sZ]; rfl) ?_)
  | (refine wpLoud_call_g 16 rfl [15] (.int .i64 (cmpD n d n2 d2)) 42 (fun g => #[g 15]) rfl (fun _ _ h => by cases h) rfl (fun g w => by kernel_rfl) (fun g z hg => by
    refine ((hg 15 (by simp)).or_ (by simp)).mono ?_
    rintro e w' ⟨rfl, rfl⟩
    exact ⟨_, rfl, Gro.refl _ _, rfl⟩) _ (by simp only [Act.put, sI, sS, sZ]; rfl) ?_)
  | (refine wpLoud_plain_g rfl rfl rfl ?_; intro K hK; go_big_quiet_op; go_big_quiet_on))
 refine wpLoud_end_g [] (by rfl) ?_
 intro g z hg
 have HBZ := Li (HB.out.trans (z.bel.mono HB.out.size))
 generalize z.wd = Y2 at *
 simp only [fill_g, Act.put, sI, sS, sZ]
 go_wp2_with fail
 go_ret
 exact ⟨rfl, HBZ.out⟩
theorem compare_g (p q : Pc) (w : World) : Calls Tryz.prog 47 #[.agg (pcV p), .agg (pcV q)] w fun e w' => e = .returned (.int .i64 (cmpP p q)) ∧ Gro w.heap.size w w' := by
 go_enter Tryz.func47, Tryz.ntmps47
 go_upto_region 1 with (first
  | (refine Go.Great.wpList_boxTo rfl 77 (.tmp 0) rfl (some 2) rfl w.heap.size rfl (pcV p) rfl ?_)
  | (refine Go.Great.wpList_boxTo rfl 77 (.tmp 1) rfl (some 3) rfl (w.heap.size + 1) (by simp) (pcV q) rfl ?_))
 obtain ⟨Z, hZ⟩ : ∃ Z, Z = (w.alloc (Obj.cells (pcV p) 77)).alloc (Obj.cells (pcV q) 77) := ⟨_, rfl⟩
 have h1 := show Blk Z w.heap.size 77 (pcV p) by rw [hZ]; exact (Blk.new w _ _).alloc _
 have h2 := show Blk Z (w.heap.size + 1) 77 (pcV q) by rw [hZ]; exact heap2P w _ _
 have HB := Li (show Gro w.heap.size w Z by rw [hZ]; exact ((Gro.refl _ _).alloc (jD _) _).alloc (by simp) _)
 rw [← hZ]
 clear hZ
 have c0 := cell_extG (show Z.cell? ⟨w.heap.size, 0, none⟩ = some (.string p.s) from (h1.cell 0).trans rfl)
 have c1 := cell_extG (show Z.cell? ⟨w.heap.size, 1, none⟩ = some (.int .i64 p.t) from (h1.cell 1).trans rfl)
 have c2 := cell_extG (show Z.cell? ⟨w.heap.size + 1, 0, none⟩ = some (.string q.s) from (h2.cell 0).trans rfl)
 have c3 := cell_extG (show Z.cell? ⟨w.heap.size + 1, 1, none⟩ = some (.int .i64 q.t) from (h2.cell 1).trans rfl)
 have H1 := Li h1
 have H2 := Li h2
 have HII := Li idInfo
 clear h1 h2
 refine wp_region_loud_g Z [20] (fun _ u W => IntsV [cmpS p.s q.s, cmpI p.t q.t, cmpD p.n p.d q.n q.d] u W) (by kernel_rfl) (by kernel_rfl) (by kernel_rfl) (by kernel_rfl) (fun _ _ _ _ h hb => h.nextG hb) (Gro.refl _ _).drew ?_
 repeat (first
  | (refine wpLoud_loadB_g rfl rfl 75 (.tmp 15) rfl w.heap.size 3 rfl (idV p.n p.d) _ (fun z => rangeAt_id (H1.out.below z.bel.toBelow H1.out.lt)) Tryz.underlying75 rfl HII.out _ (by simp only [Act.put, sI, sS, sZ]; rfl) ?_)
  | (refine wpLoud_loadB_g rfl rfl 75 (.tmp 17) rfl (w.heap.size + 1) 3 rfl (idV q.n q.d) _ (fun z => rangeAt_id (H2.out.below z.bel.toBelow H2.out.lt)) Tryz.underlying75 rfl HII.out _ (by simp only [Act.put, sI, sS, sZ]; rfl) ?_)
  | (refine wpLoud_call_g 9 rfl [] (.int .i64 (cmpS p.s q.s)) 67 (fun g => #[.string p.s, .string q.s]) rfl (fun _ _ h => by cases h) rfl (fun g w => by kernel_rfl) (fun g z hg => by
    refine (cmp_s _ _ z.wd).mono ?_
    rintro e w' ⟨rfl, rfl⟩
    exact ⟨_, rfl, Gro.refl _ _, rfl⟩) _ (by simp only [Act.put, sI, sS, sZ]; rfl) ?_)
  | (refine wpLoud_call_g 14 rfl [] (.int .i64 (cmpI p.t q.t)) 44 (fun g => #[.int .i64 p.t, .int .i64 q.t]) rfl (fun _ _ h => by cases h) rfl (fun g w => by kernel_rfl) (fun g z hg => by
    refine (cmp_i64 _ _ z.wd).mono ?_
    rintro e w' ⟨rfl, rfl⟩
    exact ⟨_, rfl, Gro.refl _ _, rfl⟩) _ (by simp only [Act.put, sI, sS, sZ]; rfl) ?_)
  | (refine wpLoud_call_g 19 rfl [] (.int .i64 (cmpD p.n p.d q.n q.d)) 43 (fun g => #[.agg (idV p.n p.d), .agg (idV q.n q.d)]) rfl (fun _ _ h => by cases h) rfl (fun g w => by kernel_rfl) (fun g z hg => by
    refine (ids_g _ _ _ _ z.wd).mono ?_
    rintro e w' ⟨rfl, hb⟩
    exact ⟨_, rfl, hb, rfl⟩) _ (by simp only [Act.put, sI, sS, sZ]; rfl) ?_)
  | (refine wpLoud_make_g rfl (fun _ _ h => by cases h) rfl 20 rfl rfl (fun y => ⟨_, _, run_ints y.wd [cmpS p.s q.s, cmpI p.t q.t, cmpD p.n p.d q.n q.d] #[(0, .tmp 9), (1, .tmp 14), (2, .tmp 19)] rfl (by kernel_rfl) (by simp) (by simp), (Gro.refl _ _).alloc (jD _) _, ⟨_, rfl, Blk.new _ _ _⟩⟩) _ (by simp only [Act.put, sI, sS, sZ]; rfl) ?_)
  | (refine wpLoud_call_g 21 rfl [20] (.int .i64 (cmpP p q)) 42 (fun g => #[g 20]) rfl (fun _ _ h => by cases h) rfl (fun g w => by kernel_rfl) (fun g z hg => by
    refine ((hg 20 (by simp)).or_ (by simp)).mono ?_
    rintro e w' ⟨rfl, rfl⟩
    exact ⟨_, rfl, Gro.refl _ _, rfl⟩) _ (by simp only [Act.put, sI, sS, sZ]; rfl) ?_)
  | (refine wpLoud_plain_g rfl rfl rfl ?_; intro K hK; go_big_quiet_op; go_big_quiet_on))
 refine wpLoud_end_g [] (by rfl) ?_
 intro g z hg
 have HBZ := Li (HB.out.trans (z.bel.mono HB.out.size))
 generalize z.wd = Y2 at *
 simp only [fill_g, Act.put, sI, sS, sZ]
 go_wp2_with fail
 go_ret
 exact ⟨rfl, HBZ.out⟩
open Go.Sort (SWO PermIn SortedIn)
def sortLay_ren : Go.Shelf.Ren := ⟨fun | 6 => 65 | 15 => 90 | 14 => 89 | 28 => 112 | 29 => 113 | 20 => 104 | 21 => 105 | 22 => 106 | 23 => 107 | 24 => 108 | 25 => 109 | 26 => 110 | 27 => 111 | 46 => 127 | 47 => 128 | 48 => 129 | 49 => 130 | 50 => 131 | 57 => 138 | n => n, fun | 22 => 31 | 24 => 77 | 25 => 109 | 3 => 3 | 39 => 154 | 0 => 0 | 53 => 29 | 55 => 43 | 4 => 4 | 46 => 170 | 45 => 169 | 50 => 174 | 5 => 5 | 9 => 9 | 66 => 198 | 70 => 201 | 76 => 207 | 77 => 208 | n => n, fun | n => n⟩
theorem sortLay : Go.Proofs.SlLaysF0.n6 Tryz.prog sortLay_ren := {
mixed := by kernel_rfl,
 f6 := ⟨"slices.SortFunc[[]quaestor/api.Piece,quaestor/api.Piece]", by decide, Tryz.func65.trans (congrArg some (by kernel_rfl))⟩,
 f14 := ⟨"slices.pdqsortCmpFunc[quaestor/api.Piece]", by decide, Tryz.func89.trans (congrArg some (by kernel_rfl))⟩,
 f15 := Tryz.func90.trans (congrArg some (by kernel_rfl)),
 f20 := ⟨"slices.insertionSortCmpFunc[quaestor/api.Piece]", by decide, Tryz.func104.trans (congrArg some (by kernel_rfl))⟩,
 f21 := ⟨"slices.heapSortCmpFunc[quaestor/api.Piece]", by decide, Tryz.func105.trans (congrArg some (by kernel_rfl))⟩,
 f22 := ⟨"slices.breakPatternsCmpFunc[quaestor/api.Piece]", by decide, Tryz.func106.trans (congrArg some (by kernel_rfl))⟩,
 f23 := ⟨"slices.choosePivotCmpFunc[quaestor/api.Piece]", by decide, Tryz.func107.trans (congrArg some (by kernel_rfl))⟩,
 f24 := ⟨"slices.reverseRangeCmpFunc[quaestor/api.Piece]", by decide, Tryz.func108.trans (congrArg some (by kernel_rfl))⟩,
 f25 := ⟨"slices.partialInsertionSortCmpFunc[quaestor/api.Piece]", by decide, Tryz.func109.trans (congrArg some (by kernel_rfl))⟩,
 f26 := ⟨"slices.partitionEqualCmpFunc[quaestor/api.Piece]", by decide, Tryz.func110.trans (congrArg some (by kernel_rfl))⟩,
 f27 := ⟨"slices.partitionCmpFunc[quaestor/api.Piece]", by decide, Tryz.func111.trans (congrArg some (by kernel_rfl))⟩,
 f28 := Tryz.func112.trans (congrArg some (by kernel_rfl)),
 f29 := Tryz.func113.trans (congrArg some (by kernel_rfl)),
 f46 := ⟨"slices.siftDownCmpFunc[quaestor/api.Piece]", by decide, Tryz.func127.trans (congrArg some (by kernel_rfl))⟩,
 f47 := Tryz.func128.trans (congrArg some (by kernel_rfl)),
 f48 := Tryz.func129.trans (congrArg some (by kernel_rfl)),
 f49 := ⟨"slices.medianAdjacentCmpFunc[quaestor/api.Piece]", by decide, Tryz.func130.trans (congrArg some (by kernel_rfl))⟩,
 f50 := ⟨"slices.medianCmpFunc[quaestor/api.Piece]", by decide, Tryz.func131.trans (congrArg some (by kernel_rfl))⟩,
 f57 := ⟨"slices.order2CmpFunc[quaestor/api.Piece]", by decide, Tryz.func138.trans (congrArg some (by kernel_rfl))⟩,
 t0 := Tryz.underlying0,
 a0 := Tryz.isAgg0,
 z0 := Tryz.sizeOf0,
 v0 := Tryz.zeroValue0,
 t3 := Tryz.underlying3,
 a3 := Tryz.isAgg3,
 z3 := Tryz.sizeOf3,
 v3 := Tryz.zeroValue3,
 t4 := Tryz.underlying4,
 a4 := Tryz.isAgg4,
 z4 := Tryz.sizeOf4,
 v4 := Tryz.zeroValue4,
 t5 := Tryz.underlying5,
 a5 := Tryz.isAgg5,
 z5 := Tryz.sizeOf5,
 v5 := Tryz.zeroValue5,
 t9 := Tryz.underlying9,
 a9 := Tryz.isAgg9,
 z9 := Tryz.sizeOf9,
 v9 := Tryz.zeroValue9,
 t22 := Tryz.underlying31,
 a22 := Tryz.isAgg31,
 z22 := Tryz.sizeOf31,
 v22 := Tryz.zeroValue31,
 t25 := Tryz.underlying109,
 a25 := Tryz.isAgg109,
 z25 := Tryz.sizeOf109,
 v25 := Tryz.zeroValue109,
 t39 := Tryz.underlying154,
 a39 := Tryz.isAgg154,
 z39 := Tryz.sizeOf154,
 v39 := Tryz.zeroValue154,
 t45 := Tryz.underlying169,
 a45 := Tryz.isAgg169,
 z45 := Tryz.sizeOf169,
 v45 := Tryz.zeroValue169,
 t46 := Tryz.underlying170,
 a46 := Tryz.isAgg170,
 z46 := Tryz.sizeOf170,
 v46 := Tryz.zeroValue170,
 t50 := Tryz.underlying174,
 a50 := Tryz.isAgg174,
 z50 := Tryz.sizeOf174,
 v50 := Tryz.zeroValue174,
 t53 := Tryz.underlying29,
 a53 := Tryz.isAgg29,
 z53 := Tryz.sizeOf29,
 v53 := Tryz.zeroValue29,
 t55 := Tryz.underlying43,
 a55 := Tryz.isAgg43,
 z55 := Tryz.sizeOf43,
 v55 := Tryz.zeroValue43,
 t66 := Tryz.underlying198,
 a66 := Tryz.isAgg198,
 z66 := Tryz.sizeOf198,
 v66 := Tryz.zeroValue198,
 t70 := Tryz.underlying201,
 a70 := Tryz.isAgg201,
 z70 := Tryz.sizeOf201,
 v70 := Tryz.zeroValue201,
 t76 := Tryz.underlying207,
 a76 := Tryz.isAgg207,
 z76 := Tryz.sizeOf207,
 v76 := Tryz.zeroValue207,
 t77 := Tryz.underlying208,
 a77 := Tryz.isAgg208,
 z77 := Tryz.sizeOf208,
 v77 := Tryz.zeroValue208 }
theorem cmpLays_pc (w : World) (blk off size : Nat) : CmpLays Tryz.prog 47 #[] pcL 5 cmpP blk off size w := fun m os dk _ x y => by
 refine (show Calls Tryz.prog 47 #[.agg (pcV x), .agg (pcV y)] _ _ from (compare_g x y _).mono ?_)
 rintro e w' ⟨rfl, hb⟩
 exact ⟨rfl, hb.grow⟩
theorem sortP_c (g cap : Nat) (l : List Pc) (rest : List Value) (w : World) (hb : Blk w g 77 (pcs l ++ rest).toArray) (hn : l.length < 4611686018427387904) :
  Calls Tryz.prog 65 #[.slice (some ⟨g, 0, none⟩) l.length cap, .func (.func 47) #[] #[]] w fun e w' =>
   e = .returned (.tuple #[]) ∧ ∃ d' : Array Pc, PermIn 0 l.toArray.size l.toArray d' ∧ SortedIn (ltOf cmpP) 0 l.toArray.size d' ∧ Blk w' g 77 (pcs d'.toList ++ rest).toArray ∧ Only (fun i => i = g) w w' := by
 have hk : ∀ x : Pc, (pcL x).length = 5 := fun x => rfl
 have h := AnyQ.slices_SortFunc (P := Tryz.prog) (ρ := sortLay_ren) sortLay 5 Tryz.isAgg77 Tryz.sizeOf77 pcL hk (fun x v hv => by
  simp [pcL] at hv
  rcases hv with rfl | rfl | rfl | rfl | rfl <;> rfl) cmpP cmpP_swo 47 #[] g 0 cap l.toArray w (enters_of Tryz.func47 (by kernel_rfl) rfl) (cmpLays_pc w g 0 _) (holdsK_blk pcL 5 hk (by omega) hb) hb.lt (by simpa using hn)
 refine (show Calls Tryz.prog 65 _ w _ from h).mono ?_
 rintro e w' ⟨rfl, d', n, os, hp, hs, rfl⟩
 obtain ⟨h1, h2⟩ := sortWorld_blk pcL 5 hk (by omega) hb n d' (by have := hp.1; simpa using this) os
 exact ⟨rfl, d', hp, hs, h1, h2⟩
theorem sort0_c (A : Option Addr) (cap : Nat) (fv : Value) (w : World) : Calls Tryz.prog 65 #[.slice A 0 cap, fv] w fun e w' => e = .returned (.tuple #[]) ∧ w' = w :=
 AnyF.slices_SortFunc_none (P := Tryz.prog) (ρ := sortLay_ren) sortLay A cap fv w
theorem sorted_c (b nn : Nat) (M : List Pc) (hnn : nn ≤ 1000000) (Bm : Nat) (w : World) (hlt : Bm < w.heap.size) (hm : w.cell? ⟨Bm, 0, none⟩ = some (.map (some b))) (hown : MapAt w b nn M) (hM : M.length ≤ 1000000) :
  Calls Tryz.prog 45 #[.func (.func 66) #[] #[.pointer (some ⟨Bm, 0, none⟩)], .func (.func 47) #[] #[]] w fun e w' =>
   ∃ v : Value, e = .returned v ∧ OwnP w' w.heap.size v M ∧ Below w.heap.size w w' := by
 have HC := Li (collect_c b nn M hnn Bm w hlt hm hown)
 obtain ⟨D, _, _, hS, _⟩ := hown
 have HS := Li hS
 clear hS
 go_enter Tryz.func45, Tryz.ntmps45
 go_upto_region 2 with (go_at_call 64; (refine HC.out.mono ?_); rintro e w2 ⟨v, ss, rfl, h1, h2, h3⟩; have R1 := Li h1; have R2 := Li h2; have R3 := Li h3; clear h1 h2 h3)
 clear HC
 have hss : ss.length ≤ 1000000 := by
  have h1 := R1.out
  have hp : ss.Perm M := (List.perm_ext_iff_of_nodup h1.1 (sort_nodup HS.out)).2 h1.2
  rw [hp.length_eq]; exact hM
 have ho : OwnP w2 w.heap.size v ss := R2.out
 obtain ⟨A, cap, rfl, hc1, hc2, hrd⟩ := ho.rd
 rcases Nat.eq_zero_or_pos ss.length with h0 | h0
 ·have HO := Li ho
  rw [h0]
  have hnil : ss = [] := List.eq_nil_of_length_eq_zero h0
  have hMn : M = [] := by
   cases M with
   | nil => rfl
   | cons a M => exact absurd ((R1.out.2 a).2 (List.mem_cons_self ..)) (by rw [hnil]; simp)
  clear ho hrd h0
  go_wp2_with (go_at_call 65; (refine (sort0_c A cap _ w2).mono ?_); rintro e w3 ⟨rfl, rfl⟩)
  go_ret
  refine ⟨_, rfl, ?_, R3.out⟩
  have := HO.out
  rw [hnil] at this
  rw [hMn]; exact this
 ·obtain ⟨g, rest, rfl, hbg, hb, hn, hmx, hr⟩ := ho.open_ h0
  have HB := Li hb
  have HR := Li hr
  have HN := Li hn
  have HX := Li hmx
  have HBG := Li hbg
  clear ho hrd hb hr hn hmx hbg hc1 hc2
  go_wp2_with (go_at_call 65; (refine (sortP_c g cap ss rest w2 HB.out (by omega)).mono ?_); rintro e w3 ⟨rfl, d', h1, h2, h3, h4⟩; have S1 := Li h1; have S2 := Li h2; have S3 := Li h3; have S4 := Li h4; clear h1 h2 h3 h4)
  go_ret
  have he := sorted_eq HS.out R1.out.2 R1.out.1 S1.out S2.out
  have hl : ss.length = M.length := by
   have h1 := S1.out.1
   have h2 : d'.toList.length = d'.size := Array.length_toList ..
   rw [← he, h2, h1]
   rfl
  have hb3 := S3.out
  rw [he] at hb3
  refine ⟨_, rfl, ?_, R3.out.trans (S4.out.below (fun i hi => by rw [hi]; exact HBG.out) R3.out.size)⟩
  rw [hl]
  exact OwnP.ofBlk HBG.out hb3 (by rw [← hl]; exact HN.out) HX.out (by rw [← hl]; exact HR.out)
def LsAt (w : World) (A : Option Addr) (Ls : List (List Pc)) : Prop := ∀ i, i < Ls.length → ∃ ad Ai ci, A = some ad ∧ ad.block < w.heap.size ∧ w.cell? (ad.add i) = some (.slice Ai (Ls.getD i []).length ci) ∧ (Ls.getD i []).length ≤ ci ∧ RdP w w.heap.size Ai (Ls.getD i [])
theorem LsAt.next {w w' : World} {A : Option Addr} {Ls : List (List Pc)} (h : LsAt w A Ls) (hb : Below w.heap.size w w') : LsAt w' A Ls := fun i hi => by
 obtain ⟨ad, Ai, ci, rfl, h1, h2, h3, h4⟩ := h i hi
 refine ⟨ad, Ai, ci, rfl, jH h1 hb.size, (hb.cell (by rw [add_block]; exact h1)).trans h2, h3, ?_⟩
 exact (Rd.below (show Rd w w.heap.size Ai (pcs _) from h4) hb).more hb.size
def zPl : Array Value := #[.string ByteArray.empty, .int .i64 0]
theorem zero_pl (w : World) : (zeroValue 100).run Tryz.prog w = .ok (.agg zPl) w := by kernel_rfl
def plC (p : Pc) : Array Value := #[.string p.s, .int .i64 p.t]
theorem plC_one (p : Pc) : (plC p).all (·.oneCell') = true := by simp [plC, Value.oneCell']
def plK (p : Pc) : List Value := [.string p.s, .int .i64 p.t]
theorem plK_len (p : Pc) : (Tryz.prog.info? 100).map (·.size) = some (plK p).length := by
 show _ = some 2
 kernel_rfl
theorem plInfo (p : Pc) : (Tryz.prog.info? 100).map (·.size) = some (plC p).size := by
 show _ = some 2
 kernel_rfl
def rankC (q p : Pc) : Int := orL [cmpD q.n q.d p.n p.d, cmpI q.v p.v]
theorem rank_ge (q p : Pc) : decide (0 ≤ rankC q p) = !better p q := by
 have h : rankC q p < 0 ↔ better p q = true := by
  unfold rankC cmpD
  rw [orL2_neg, orL2_neg, better_iff, cmpI_neg, cmpI_neg, cmpI_neg]
  have h0 : orL [cmpI (q.n : Int) p.n, cmpI (q.d : Int) p.d] = 0 ↔ q.n = p.n ∧ q.d = p.d := by
   simp only [orL]
   have e1 := cmpI_zero (q.n : Int) p.n
   have e2 := cmpI_zero (q.d : Int) p.d
   split
   ·rename_i h1
    have h3 := e1.1 h1
    split
    ·rename_i h2
     have h4 := e2.1 h2
     constructor
     ·intro _; omega
     ·intro _; rfl
    ·rename_i h2
     constructor
     ·intro h5; exact absurd h5 h2
     ·intro h5; exact absurd (e2.2 (by omega)) h2
   ·rename_i h1
    constructor
    ·intro h5; exact absurd h5 h1
    ·intro h5; exact absurd (e1.2 (by omega)) h1
  rw [h0, cmpI_zero]
  omega
 cases hb : better p q with
 | true =>
  have := h.2 hb
  rw [Bool.not_true, decide_eq_false_iff_not]; omega
 | false =>
  have : ¬ rankC q p < 0 := fun h1 => by rw [h.1 h1] at hb; cases hb
  rw [Bool.not_false, decide_eq_true_iff]; omega
theorem flatten_take_succ (Ls : List (List Pc)) (k : Nat) (hk : k < Ls.length) : (Ls.take (k + 1)).flatten = (Ls.take k).flatten ++ Ls.getD k [] := by
 rw [List.take_add_one, List.flatten_append]
 congr 1
 rw [jB hk, jA, jB hk]
 simp
theorem mgTo_snoc (M l : List Pc) (p : Pc) : mgTo M (l ++ [p]) = if ckP p then insP p (mgTo M l) else mgTo M l := by
 rw [mgTo_app]
 rfl
theorem take_snocP (l : List Pc) (k : Nat) (h : k < l.length) : l.take (k + 1) = l.take k ++ [l.getD k pc0] := by
 rw [List.take_add_one, jB h, jA, jB h]
 rfl
theorem MapAt.grow {w w' : World} {b n b2 : Nat} {M : List Pc} (h : MapAt w b n M) (hb : Below b2 w w') (hlt : b < b2) : MapAt w' b n M := by
 obtain ⟨D, ⟨es, clock, hbk, r⟩, h2⟩ := h
 exact ⟨D, ⟨es, clock, (hb.block b hlt).trans hbk, r⟩, h2⟩
theorem MapAt.sorted {w : World} {b n : Nat} {M : List Pc} (h : MapAt w b n M) : SortP M := by
 obtain ⟨D, _, _, h3, _⟩ := h
 exact h3
theorem one_better {M : List Pc} (hS : SortP M) {p q : Pc} (hq : q ∈ M) (hs : samePl q p = true) (hb : better p q = true) : ∀ r ∈ M, samePl r p = true → better p r = true := fun r hr hrs => by
 rw [sort_place hS hr hq (samePl_trans hrs (by rw [samePl_comm]; exact hs))]
 exact hb
theorem ckP_in {p : Pc} (h : ckP p = true) (hok : PcOk p) : PcIn p := by
 unfold ckP at h
 simp only [Bool.and_eq_true, decide_eq_true_eq] at h
 exact ⟨by unfold maxLen; omega, hok.t0, hok.t1⟩
theorem flat_len : ∀ (Ls : List (List Pc)) (m : Nat), (∀ L ∈ Ls, L.length ≤ m) → Ls.flatten.length ≤ Ls.length * m
 | [], m, _ => by simp
 | L :: Ls, m, h => by
  rw [List.flatten_cons, jC, List.length_cons, Nat.add_mul, Nat.one_mul]
  have := flat_len Ls m (fun K hK => h K (List.mem_cons_of_mem _ hK))
  have := h L (List.mem_cons_self ..)
  omega
theorem idle1M {x : Value} (h : isTok x = false) : (!isTok x && true) = true := by rw [h]; rfl
theorem placeMapU : Tryz.prog.underlying 97 = some (.map 100 77) := Tryz.underlying97
theorem merge_c (A : Option Addr) (cap : Nat) (Ls : List (List Pc)) (w : World) (hls : LsAt w A Ls) (hc : Ls.length ≤ cap) (hlen : Ls.length ≤ 1000) (hp : ∀ L ∈ Ls, L.length ≤ 1000 ∧ ∀ p ∈ L, PcOk p ∧ p.s.size ≤ 9223372036854775807) :
  Calls Tryz.prog 25 #[.slice A Ls.length cap] w fun e w' => ∃ v, e = .returned v ∧ OwnP w' w.heap.size v (mergeL Ls.flatten) ∧ Below w.heap.size w w' := by
 have HLS := Li hls
 have HP := Li hp
 have HLEN := Li hlen
 have zf := zero_pc
 have zs1 : zPc.size = 5 := by rfl
 have zs2 : ¬ zPc = #[] := by intro h; have := congrArg Array.size h; rw [zs1] at this; cases this
 have zf2 := zero_pl
 have zs3 : zPl.size = 2 := by rfl
 have zs4 : ¬ zPl = #[] := by intro h; have := congrArg Array.size h; rw [zs3] at this; cases this
 have hmk : (Instr.makeMap 97 none).run Tryz.prog w = .ok (.map (some w.heap.size)) (w.alloc (.map #[] 0)) := by rfl
 clear hls hp
 go_enter Tryz.func25, Tryz.ntmps25
 go_upto_region 2 with fail
 have hz1 : MapAt (w.alloc (.map #[] 0)) w.heap.size 0 [] := MapAt.made w
 have hz2 : Below w.heap.size w (w.alloc (.map #[] 0)) := (jE _ _).alloc (jD _) _
 generalize w.alloc (.map #[] 0) = Z at *
 have HM := Li hz1
 have HB := Li hz2
 clear hz1 hz2 hmk
 go_wp2_with fail
 go_loopw [14, 50] (fun i u wr => isTok u = false ∧ ∃ k : Nat, k ≤ Ls.length ∧ i = .int .i64 (k : Nat) ∧ Below w.heap.size w wr ∧ ∃ n, n ≤ k * 1000 ∧ MapAt wr w.heap.size n (mgTo [] (Ls.take k).flatten)) (fun i _ _ => Ls.length - (intOf i).toNat)
 case atStart => exact ⟨rfl, 0, Nat.zero_le _, rfl, HB.out, 0, jD _, HM.out⟩
 case round =>
  rename World => wr
  obtain ⟨htk0, k, hk, rfl, hbr, n, hn, hmr⟩ := hrel
  have HT0 := Li htk0
  clear htk0
  clear HM HB
  by_cases hlt : k < Ls.length
  ·have q1 : (k : Int) < (Ls.length : Int) := by omega
   obtain ⟨ad, Ai, ci, rfl, h1, h2', h3, h4⟩ := HLS.out k hlt
   have h2 := (hbr.cell (by rw [add_block]; exact h1)).trans h2'
   clear h2'
   obtain ⟨L, hL⟩ : ∃ L, L = Ls.getD k [] := ⟨_, rfl⟩
   rw [← hL] at h2 h3 h4
   have hLm : L ∈ Ls := by rw [hL, jA, jB hlt]; exact List.getElem_mem hlt
   obtain ⟨hL1, hLp⟩ := HP.out L hLm
   have HFL := Li (show mgTo [] (Ls.take (k + 1)).flatten = mgTo (mgTo [] (Ls.take k).flatten) L by rw [flatten_take_succ Ls k hlt, mgTo_app, hL])
   have hmr0 := hmr
   generalize mgTo [] (Ls.take k).flatten = M0 at *
   have HMR := Li hmr0
   have HBR := Li hbr
   have HRD := Li h4
   have HLP := Li hLp
   have HLT := Li hlt
   have HK := Li hn
   have HL1 := Li hL1
   have p1 : (L.length : Int) ≤ 1000 := by omega
   clear hL hLm hmr hmr0 hbr h4 hLp hlt hn hL1
   go_wp2_with fail
   go_step3
   go_wp2_with fail
   go_step3
   go_wp2_with fail
   go_loopw [20, 50] (fun i u wr => isTok u = false ∧ ∃ j : Nat, j ≤ L.length ∧ i = .int .i64 (j : Nat) ∧ Below w.heap.size w wr ∧ ∃ n, n ≤ k * 1000 + j ∧ MapAt wr w.heap.size n (mgTo M0 (L.take j))) (fun i _ _ => L.length - (intOf i).toNat)
   case atStart => exact ⟨HT0.out, 0, Nat.zero_le _, rfl, HBR.out, n, HK.out, HMR.out⟩
   case round =>
    clear HMR HBR HK
    rename World => wi
    obtain ⟨htk1, j, hj, rfl, hbi, n2, hn2, hmi⟩ := hrel
    have HT1 := Li htk1
    clear htk1
    by_cases hjl : j < L.length
    ·have r1 : (j : Int) < (L.length : Int) := by omega
     obtain ⟨ad2, rfl, hab, hat⟩ := (show RdP wi w.heap.size Ai L from Rd.below HRD.out hbi).open_ (by omega)
     obtain ⟨p, hpe⟩ : ∃ p, p = L.getD j pc0 := ⟨_, rfl⟩
     have hpa := hat.piece j hjl
     rw [← hpe] at hpa
     have hpL : p ∈ L := by rw [hpe, jA, jB hjl]; exact List.getElem_mem hjl
     obtain ⟨hpk, hps⟩ := HLP.out p hpL
     have HTK := Li (show mgTo M0 (L.take (j + 1)) = if ckP p then insP p (mgTo M0 (L.take j)) else mgTo M0 (L.take j) by rw [take_snocP L j hjl, mgTo_snoc, hpe])
     generalize mgTo M0 (L.take j) = M at *
     have HPA := Li hpa
     have HPK := Li hpk
     have HPS := Li hps
     have HBI := Li hbi
     have HMI := Li hmi
     have HN2 := Li hn2
     have HJL := Li hjl
     clear hat hpe hpa hpL hpk hps hbi hmi hn2 hjl hab
     go_upto_region 8 with (first
      | (refine wpList_loadA rfl 77 (.tmp 22) rfl (ad2.add (j * 5)) rfl (pcL p) _ HPA.out Tryz.underlying77 rfl (pcLn p) ?_)
      | (refine wpList_store_rowTo rfl 77 (.tmp 7) (.tmp 23) rfl rfl wi.heap.size (pcV p) rfl rfl 77 zPc (by exact heap_alloc_new _ _) (pcInfo p) rfl (pcV_one p) ?_))
     obtain ⟨Y, hY⟩ : ∃ Y, Y = (wi.alloc (Obj.cells zPc 77)).setRow wi.heap.size (pcV p) := ⟨_, rfl⟩
     have hnr := new_rowP wi 77 zPc (pcV p)
     rw [← hY] at hnr ⊢
     have HB1 := Li hnr.1
     have HBY := Li (HBI.out.trans (hnr.2.mono HBI.out.size))
     have HMY := Li (HMI.out.next hnr.2)
     clear hnr hY HPA HMI HBI
     generalize wi.heap.size = g1 at *
     have HCK := Li (pcheck_c p Y HPS.out)
     by_cases hck : ckP p = true
     ·have HIN := Li (ckP_in hck HPK.out)
      have hE : pcE p = 0 := by unfold pcE; rw [if_pos hck]
      rw [hE] at HCK
      have htk := HTK.out
      rw [if_pos hck] at htk
      have HTK2 := Li htk
      clear htk HTK hE hck HPK
      go_upto_region 10 with (first
       | (refine wpList_store_rowTo rfl 100 (.tmp 8) (.tmp 31) rfl rfl w3.heap.size (plC p) rfl rfl 100 zPl (by exact heap_alloc_new _ _) (plInfo p) rfl (plC_one p) ?_)
       | (refine wpList_loadA rfl 77 (.tmp 7) rfl ⟨g1, 0, none⟩ rfl (pcL p) _ (atA_blk HB1.out) Tryz.underlying77 rfl (pcLn p) ?_)
       | (go_at_call 41; (refine HCK.out.mono ?_); rintro e w3 ⟨rfl, hb3⟩; have HB3 := Li hb3; have c0 : w3.cell? ⟨g1, 0, none⟩ = some (.string p.s) := ((HB1.out.below hb3 HB1.out.lt).cell 0).trans rfl; have c1 : w3.cell? ⟨g1, 1, none⟩ = some (.int .i64 p.t) := ((HB1.out.below hb3 HB1.out.lt).cell 1).trans rfl; clear hb3))
      obtain ⟨Y2, hY2⟩ : ∃ Y2, Y2 = (w3.alloc (Obj.cells zPl 100)).setRow w3.heap.size (plC p) := ⟨_, rfl⟩
      have hnr := new_rowP w3 100 zPl (plC p)
      rw [← hY2] at hnr ⊢
      have HP2 := Li hnr.1
      have HB12 := Li ((HB1.out.below HB3.out HB1.out.lt).below hnr.2 (jH HB1.out.lt HB3.out.size))
      have HBY2 := Li ((HBY.out.trans (HB3.out.mono HBY.out.size)).trans (hnr.2.mono (Nat.le_trans HBY.out.size HB3.out.size)))
      have HMY2 := Li ((HMY.out.next HB3.out).next hnr.2)
      clear hnr hY2 HB1 HB3 HBY HMY HCK c0 c1
      generalize w3.heap.size = g2 at *
      have hlook := HMY2.out.look placeMapU HIN.out
      rcases hlook with ⟨q, hq, hqs, hrun⟩ | ⟨hno, hrun⟩
      ·change (Instr.lookup 97 (.map (some w.heap.size)) (.agg (plK p).toArray) true).run Tryz.prog Y2 = _ at hrun
       have HQ := Li hq
       have HQS := Li hqs
       clear hq hqs
       go_upto_region 11 with (first
        | (refine wpList_loadA rfl 100 (.tmp 8) rfl ⟨g2, 0, none⟩ rfl (plK p) _ (atA_blk HP2.out) Tryz.underlying100 rfl (plK_len p) ?_)
        | (refine wpList_store_rowTo rfl 77 (.tmp 9) (.tmp 36) rfl rfl Y2.heap.size (pcV q) rfl rfl 77 zPc (by exact heap_alloc_new _ _) (pcInfo q) rfl (pcV_one q) ?_))
       obtain ⟨Y3, hY3⟩ : ∃ Y3, Y3 = (Y2.alloc (Obj.cells zPc 77)).setRow Y2.heap.size (pcV q) := ⟨_, rfl⟩
       have hnr := new_rowP Y2 77 zPc (pcV q)
       rw [← hY3] at hnr ⊢
       have HQ3 := Li hnr.1
       have HB13 := Li (HB12.out.below hnr.2 HB12.out.lt)
       have HP23 := Li (HP2.out.below hnr.2 HP2.out.lt)
       have HBY3 := Li (HBY2.out.trans (hnr.2.mono HBY2.out.size))
       have HM3 := Li (HMY2.out.next hnr.2)
       clear hnr hY3 HP2 HB12 HBY2 HMY2 hrun
       generalize Y2.heap.size = g3 at *
       have HII := Li idInfo
       have c4 := cell_ext (show Y3.cell? ⟨g3, 2, none⟩ = some (.int .i64 q.v) from (HQ3.out.cell 2).trans rfl)
       have c5 := cell_ext (show Y3.cell? ⟨g1, 2, none⟩ = some (.int .i64 p.v) from (HB13.out.cell 2).trans rfl)
       obtain ⟨r, hr⟩ : ∃ r, r = rankC q p := ⟨_, rfl⟩
       have HRK := Li hr
       have hge := rank_ge q p
       rw [← hr] at hge
       clear hr
       cases hbt : better p q with
       | false =>
       have r2 : 0 ≤ r := by rw [hbt] at hge; exact of_decide_eq_true hge
       have HBT := Li hbt
       clear hge hbt
       refine wp_region_loud Y3 [50] (fun _ u W => IntsV [cmpD q.n q.d p.n p.d, cmpI q.v p.v] u W) (by kernel_rfl) (by kernel_rfl) (by kernel_rfl) (by exact idle1M HT1.out) (fun _ _ _ _ h hb => h.next hb) (jE _ _).drew ?_
       repeat (first
        | (refine wpLoud_loadB rfl rfl 75 (.tmp 40) rfl g3 3 rfl (idV q.n q.d) _ (fun z => rangeAt_id (HQ3.out.below z.bel HQ3.out.lt)) Tryz.underlying75 rfl HII.out _ (by simp only [Act.put, sI, sS, sZ]; rfl) ?_)
        | (refine wpLoud_loadB rfl rfl 75 (.tmp 42) rfl g1 3 rfl (idV p.n p.d) _ (fun z => rangeAt_id (HB13.out.below z.bel HB13.out.lt)) Tryz.underlying75 rfl HII.out _ (by simp only [Act.put, sI, sS, sZ]; rfl) ?_)
        | (refine wpLoud_call 44 rfl [] (.int .i64 (cmpD q.n q.d p.n p.d)) 43 (fun g => #[.agg (idV q.n q.d), .agg (idV p.n p.d)]) rfl (fun _ _ h => by cases h) rfl (fun g w => by kernel_rfl) (fun g z hg => by
          refine (ids_c _ _ _ _ z.wd).mono ?_
          rintro e w' ⟨rfl, hb⟩
          exact ⟨_, rfl, hb, rfl⟩) _ (by simp only [Act.put, sI, sS, sZ]; rfl) ?_)
        | (refine wpLoud_call 49 rfl [] (.int .i64 (cmpI q.v p.v)) 44 (fun g => #[.int .i64 q.v, .int .i64 p.v]) rfl (fun _ _ h => by cases h) rfl (fun g w => by kernel_rfl) (fun g z hg => by
          refine (cmp_i64 _ _ z.wd).mono ?_
          rintro e w' ⟨rfl, rfl⟩
          exact ⟨_, rfl, jE _ _, rfl⟩) _ (by simp only [Act.put, sI, sS, sZ]; rfl) ?_)
        | (refine wpLoud_make rfl (fun _ _ h => by cases h) rfl 50 rfl rfl (fun y => ⟨_, _, run_ints y.wd [cmpD q.n q.d p.n p.d, cmpI q.v p.v] #[(0, .tmp 44), (1, .tmp 49)] rfl (by kernel_rfl) (by simp) (by simp), (jE _ _).alloc (jD _) _, ⟨_, rfl, Blk.new _ _ _⟩⟩) _ (by simp only [Act.put, sI, sS, sZ]; rfl) ?_)
        | (refine wpLoud_call 51 rfl [50] (.int .i64 r) 42 (fun g => #[g 50]) rfl (fun _ _ h => by cases h) rfl (fun g w => by kernel_rfl) (fun g z hg => by
          refine ((hg 50 (by simp)).or_ (by simp)).mono ?_
          rintro e w' ⟨rfl, rfl⟩
          exact ⟨_, rfl, jE _ _, by rw [HRK.out]; rfl⟩) _ (by simp only [Act.put, sI, sS, sZ]; rfl) ?_)
        | (refine wpLoud_plain rfl rfl rfl ?_; intro K hK; go_big_quiet_op; go_big_quiet_on))
       refine wpLoud_end [50] (by rfl) ?_
       intro gg z hg
       have HT5 := Li (show isTok (gg 50) = false by
        obtain ⟨g, e, _⟩ := hg 50 (by simp)
        rw [e]; rfl)
       have HBZ := Li z.bel
       generalize z.wd = Y4 at *
       simp only [fill, Act.put, sI, sS, sZ]
       clear hg c4 c5 HII
       generalize gg 50 = x50 at *
       have HM4 := Li (HM3.out.next HBZ.out)
       have HBW4 := Li (HBY3.out.trans (HBZ.out.mono HBY3.out.size))
       have hst := ins_stay HM4.out.sorted HQ.out HQS.out HBT.out
       have HST := Li hst
       clear hst
       go_wp2_with fail
       go_roundw
       case rel => exact ⟨HT5.out, j + 1, by have := HJL.out; omega, by go_num, HBW4.out, n2, by have := HN2.out; omega, by rw [HTK2.out, HST.out]; exact HM4.out⟩
       case measure => have := HJL.out; simp [intOf]; omega
       | true =>
       have r2 : ¬ 0 ≤ r := by rw [hbt] at hge; exact of_decide_eq_false hge
       have HBT := Li (one_better HM3.out.sorted HQ.out HQS.out hbt)
       clear hge hbt
       refine wp_region_loud Y3 [50] (fun _ u W => IntsV [cmpD q.n q.d p.n p.d, cmpI q.v p.v] u W) (by kernel_rfl) (by kernel_rfl) (by kernel_rfl) (by exact idle1M HT1.out) (fun _ _ _ _ h hb => h.next hb) (jE _ _).drew ?_
       repeat (first
        | (refine wpLoud_loadB rfl rfl 75 (.tmp 40) rfl g3 3 rfl (idV q.n q.d) _ (fun z => rangeAt_id (HQ3.out.below z.bel HQ3.out.lt)) Tryz.underlying75 rfl HII.out _ (by simp only [Act.put, sI, sS, sZ]; rfl) ?_)
        | (refine wpLoud_loadB rfl rfl 75 (.tmp 42) rfl g1 3 rfl (idV p.n p.d) _ (fun z => rangeAt_id (HB13.out.below z.bel HB13.out.lt)) Tryz.underlying75 rfl HII.out _ (by simp only [Act.put, sI, sS, sZ]; rfl) ?_)
        | (refine wpLoud_call 44 rfl [] (.int .i64 (cmpD q.n q.d p.n p.d)) 43 (fun g => #[.agg (idV q.n q.d), .agg (idV p.n p.d)]) rfl (fun _ _ h => by cases h) rfl (fun g w => by kernel_rfl) (fun g z hg => by
          refine (ids_c _ _ _ _ z.wd).mono ?_
          rintro e w' ⟨rfl, hb⟩
          exact ⟨_, rfl, hb, rfl⟩) _ (by simp only [Act.put, sI, sS, sZ]; rfl) ?_)
        | (refine wpLoud_call 49 rfl [] (.int .i64 (cmpI q.v p.v)) 44 (fun g => #[.int .i64 q.v, .int .i64 p.v]) rfl (fun _ _ h => by cases h) rfl (fun g w => by kernel_rfl) (fun g z hg => by
          refine (cmp_i64 _ _ z.wd).mono ?_
          rintro e w' ⟨rfl, rfl⟩
          exact ⟨_, rfl, jE _ _, rfl⟩) _ (by simp only [Act.put, sI, sS, sZ]; rfl) ?_)
        | (refine wpLoud_make rfl (fun _ _ h => by cases h) rfl 50 rfl rfl (fun y => ⟨_, _, run_ints y.wd [cmpD q.n q.d p.n p.d, cmpI q.v p.v] #[(0, .tmp 44), (1, .tmp 49)] rfl (by kernel_rfl) (by simp) (by simp), (jE _ _).alloc (jD _) _, ⟨_, rfl, Blk.new _ _ _⟩⟩) _ (by simp only [Act.put, sI, sS, sZ]; rfl) ?_)
        | (refine wpLoud_call 51 rfl [50] (.int .i64 r) 42 (fun g => #[g 50]) rfl (fun _ _ h => by cases h) rfl (fun g w => by kernel_rfl) (fun g z hg => by
          refine ((hg 50 (by simp)).or_ (by simp)).mono ?_
          rintro e w' ⟨rfl, rfl⟩
          exact ⟨_, rfl, jE _ _, by rw [HRK.out]; rfl⟩) _ (by simp only [Act.put, sI, sS, sZ]; rfl) ?_)
        | (refine wpLoud_plain rfl rfl rfl ?_; intro K hK; go_big_quiet_op; go_big_quiet_on))
       refine wpLoud_end [50] (by rfl) ?_
       intro gg z hg
       have HT5 := Li (show isTok (gg 50) = false by
        obtain ⟨g, e, _⟩ := hg 50 (by simp)
        rw [e]; rfl)
       have HBZ := Li z.bel
       generalize z.wd = Y4 at *
       simp only [fill, Act.put, sI, sS, sZ]
       clear hg c4 c5 HII
       generalize gg 50 = x50 at *
       have HB14 := Li (HB13.out.below HBZ.out HB13.out.lt)
       have HP24 := Li (HP23.out.below HBZ.out HP23.out.lt)
       have HM4 := Li (HM3.out.next HBZ.out)
       have HBW4 := Li (HBY3.out.trans (HBZ.out.mono HBY3.out.size))
       obtain ⟨w5, hrun5, hm5, hg5⟩ := HM4.out.store placeMapU (by have := HN2.out; unfold maxLen; omega) HIN.out HBT.out
       change (Instr.mapUpdate 97 (.map (some w.heap.size)) (.agg (plK p).toArray) (.agg (pcL p).toArray)).run Tryz.prog Y4 = _ at hrun5
       have HM5 := Li hm5
       have HG5 := Li hg5
       clear hm5 hg5
       go_wp2_with (first
        | (refine wpList_loadA rfl 100 (.tmp 8) rfl ⟨g2, 0, none⟩ rfl (plK p) _ (atA_blk HP24.out) Tryz.underlying100 rfl (plK_len p) ?_)
        | (refine wpList_loadA rfl 77 (.tmp 7) rfl ⟨g1, 0, none⟩ rfl (pcL p) _ (atA_blk HB14.out) Tryz.underlying77 rfl (pcLn p) ?_))
       go_roundw
       case rel => exact ⟨HT5.out, j + 1, by have := HJL.out; omega, by go_num, HBW4.out.grown HG5.out HBW4.out.size (fun k e => by injection e with e; omega), n2 + 1, by have := HN2.out; omega, by rw [HTK2.out]; exact HM5.out⟩
       case measure => have := HJL.out; simp [intOf]; omega
      ·change (Instr.lookup 97 (.map (some w.heap.size)) (.agg (plK p).toArray) true).run Tryz.prog Y2 = _ at hrun
       have HBT := Li (show ∀ q ∈ M, samePl q p = true → better p q = true from fun q hq hs => by rw [hno q hq] at hs; cases hs)
       clear hno
       go_upto_region 11 with (first
        | (refine wpList_loadA rfl 100 (.tmp 8) rfl ⟨g2, 0, none⟩ rfl (plK p) _ (atA_blk HP2.out) Tryz.underlying100 rfl (plK_len p) ?_)
        | (refine wpList_store_rowTo rfl 77 (.tmp 9) (.tmp 36) rfl rfl Y2.heap.size zPc rfl rfl 77 zPc (by exact heap_alloc_new _ _) (pcInfo pc0) rfl (pcV_one pc0) ?_))
       obtain ⟨Y3, hY3⟩ : ∃ Y3, Y3 = (Y2.alloc (Obj.cells zPc 77)).setRow Y2.heap.size zPc := ⟨_, rfl⟩
       have hnr := new_rowP Y2 77 zPc zPc
       rw [← hY3] at hnr ⊢
       have HB13 := Li (HB12.out.below hnr.2 HB12.out.lt)
       have HP23 := Li (HP2.out.below hnr.2 HP2.out.lt)
       have HBY3 := Li (HBY2.out.trans (hnr.2.mono HBY2.out.size))
       have HM3 := Li (HMY2.out.next hnr.2)
       clear hnr hY3 HP2 HB12 HBY2 HMY2 hrun
       generalize Y2.heap.size = g3 at *
       refine wp_region_class (fun n => Y3.drewN n) (by kernel_rfl) (by kernel_rfl) ⟨1, rfl⟩ ?_
       repeat (go_big_quiet_step (fail))
       refine wpQuiet_nil ?_
       rintro _ ⟨nq, rfl⟩
       have HBZ := Li (belowDrewN nq (jE Y3.heap.size Y3))
       generalize Y3.drewN nq = Y4 at *
       have HB14 := Li (HB13.out.below HBZ.out HB13.out.lt)
       have HP24 := Li (HP23.out.below HBZ.out HP23.out.lt)
       have HM4 := Li (HM3.out.next HBZ.out)
       have HBW4 := Li (HBY3.out.trans (HBZ.out.mono HBY3.out.size))
       obtain ⟨w5, hrun5, hm5, hg5⟩ := HM4.out.store placeMapU (by have := HN2.out; unfold maxLen; omega) HIN.out HBT.out
       change (Instr.mapUpdate 97 (.map (some w.heap.size)) (.agg (plK p).toArray) (.agg (pcL p).toArray)).run Tryz.prog Y4 = _ at hrun5
       have HM5 := Li hm5
       have HG5 := Li hg5
       clear hm5 hg5
       go_wp2_with (first
        | (refine wpList_loadA rfl 100 (.tmp 8) rfl ⟨g2, 0, none⟩ rfl (plK p) _ (atA_blk HP24.out) Tryz.underlying100 rfl (plK_len p) ?_)
        | (refine wpList_loadA rfl 77 (.tmp 7) rfl ⟨g1, 0, none⟩ rfl (pcL p) _ (atA_blk HB14.out) Tryz.underlying77 rfl (pcLn p) ?_))
       go_roundw
       case rel => exact ⟨rfl, j + 1, by have := HJL.out; omega, by go_num, HBW4.out.grown HG5.out HBW4.out.size (fun k e => by injection e with e; omega), n2 + 1, by have := HN2.out; omega, by rw [HTK2.out]; exact HM5.out⟩
       case measure => have := HJL.out; simp [intOf]; omega
     ·have hE : pcE p = 1 := by unfold pcE; rw [if_neg hck]
      rw [hE] at HCK
      have htk := HTK.out
      rw [if_neg hck] at htk
      have HTK2 := Li htk
      clear htk HTK hE hck HPK
      go_wp2_with (first
       | (refine wpList_loadA rfl 77 (.tmp 7) rfl ⟨g1, 0, none⟩ rfl (pcL p) _ (atA_blk HB1.out) Tryz.underlying77 rfl (pcLn p) ?_)
       | (go_at_call 41; (refine HCK.out.mono ?_); rintro e w3 ⟨rfl, hb3⟩; have HB3 := Li hb3; clear hb3))
      go_roundw
      case rel => exact ⟨HT1.out, j + 1, by have := HJL.out; omega, by go_num, HBY.out.trans (HB3.out.mono HBY.out.size), n2, by have := HN2.out; omega, by rw [HTK2.out]; exact HMY.out.next HB3.out⟩
      case measure => have := HJL.out; simp [intOf]; omega
    ·obtain rfl : j = L.length := by omega
     have r1 : ¬ (L.length : Int) < (L.length : Int) := by omega
     have HBI := Li hbi
     have HN2 := Li hn2
     have hmi2 := hmi
     rw [List.take_length, ← HFL.out] at hmi2
     have HMI := Li hmi2
     clear hbi hn2 hmi hmi2
     go_wp2_with fail
     go_roundw
     case rel => exact ⟨HT1.out, k + 1, by have := HLT.out; omega, by go_num, HBI.out, n2, by have := HN2.out; have := HL1.out; omega, HMI.out⟩
     case measure => have := HLT.out; simp [intOf]; omega
  ·obtain rfl : k = Ls.length := by omega
   have q1 : ¬ (Ls.length : Int) < (Ls.length : Int) := by omega
   rw [List.take_length] at hmr
   have HML := Li (show (mgTo [] Ls.flatten).length ≤ 1000000 by
    have h1 := merge_len Ls.flatten
    have h2 : Ls.flatten.length ≤ Ls.length * 1000 := flat_len Ls 1000 (fun L hL => (HP.out L hL).1)
    unfold mergeL at h1
    omega)
   have HBR := Li hbr
   have HMR := Li hmr
   have HNK := Li hn
   clear hbr hmr hn
   go_wp2_with (first
    | (go_at_call 46; (refine (valsV_c (some w.heap.size) wr).mono ?_); rintro e w2 ⟨rfl, h2⟩; have hb2 : Below wr.heap.size wr w2 := (by rw [h2]; exact (jE _ _).alloc (jD _) _); have hc2 : w2.cell? ⟨wr.heap.size, 0, none⟩ = some (.map (some w.heap.size)) := (by rw [h2]; exact (Blk.new wr _ _).cell 0); have hs2 : wr.heap.size < w2.heap.size := (by rw [h2]; simp); have HB2 := Li hb2; have HC2 := Li hc2; have HS2 := Li hs2; clear h2 hb2 hc2 hs2)
    | (go_at_call 45; (refine (sorted_c w.heap.size n (mgTo [] Ls.flatten) (by have := HNK.out; have := HLEN.out; omega) wr.heap.size w2 HS2.out HC2.out (HMR.out.next HB2.out) HML.out).mono ?_); rintro e w3 ⟨v, rfl, h3, h4⟩; have H3 := Li h3; have H4 := Li h4; clear h3 h4))
   go_ret
   have hb := HBR.out.trans (HB2.out.mono HBR.out.size)
   exact ⟨v, rfl, own_base_le H3.out hb.size, hb.trans (H4.out.mono hb.size)⟩
theorem epochKeyed : Maps.Keyed Tryz.prog 29 := Maps.int_keyed Tryz.underlying29
def epL (e : Nat) : Lit := .int .u32 (e : Int)
theorem epL_inj {a b : Nat} (h : epL a = epL b) : a = b := by
 unfold epL at h
 injection h with _ h
 omega
theorem epL_key (e : Nat) : WideAt.IsKeyLit (epL e) := trivial
theorem epoch_key (e : Nat) (h : e < 4294967296) : keyOf Tryz.prog 29 (.int .u32 (e : Int)) = some (epL e) :=
 Maps.keyOf_int_mk Tryz.underlying29 (WalkArith.wf_u32 ⟨by omega, by omega⟩)
structure KMap (D : DataW Value) (f : Nat → Option (Array Value)) : Prop where
 im : Maps.IsMap D
 at_ : ∀ e v, f e = some v → ∀ z, D.atKey (epL e) z = .held (.agg v)
 has : ∀ e, Maps.has D (epL e) = (f e).isSome
def KeysAt (w : World) (b n : Nat) (f : Nat → Option (Array Value)) : Prop := ∃ D : DataW Value, w.ownsMap Tryz.prog 29 asIs b n D ∧ KMap D f
theorem KeysAt.lt {w : World} {b n : Nat} {f : Nat → Option (Array Value)} (h : KeysAt w b n f) : b < w.heap.size := by
 obtain ⟨D, h1, _⟩ := h
 exact h1.lt
theorem KeysAt.made (w : World) : KeysAt (w.alloc (.map #[] 0)) w.heap.size 0 (fun _ => none) :=
 ⟨_, World.ownsMap_made w _ _ _, ⟨Maps.isMap_empty, fun e v h => (by cases h), fun e => (by simp [Maps.has_eq])⟩⟩
theorem KeysAt.only {w w' : World} {b n : Nat} {f : Nat → Option (Array Value)} {S : Nat → Prop} (h : KeysAt w b n f) (ho : Only S w w') (hb : ¬ S b) : KeysAt w' b n f := by
 obtain ⟨D, h1, r⟩ := h
 exact ⟨D, ownsMap_only h1 ho hb, r⟩
theorem KeysAt.next {w w' : World} {b n : Nat} {f : Nat → Option (Array Value)} (h : KeysAt w b n f) (hb : Below w.heap.size w w') : KeysAt w' b n f := h.only (S := fun _ => False) (Only.of_below hb) (fun h => h)
theorem KeysAt.look {w : World} {b n : Nat} {f : Nat → Option (Array Value)} (h : KeysAt w b n f) {t e : TypeId} {z : Array Value} (ht : Tryz.prog.underlying t = some (.map 29 e)) (hz : (zeroValue e).run Tryz.prog w = .ok (.agg z) w) {ep : Nat} (he : ep < 4294967296) :
  (Instr.lookup t (.map (some b)) (.int .u32 (ep : Int)) true).run Tryz.prog w = .ok (.tuple #[.agg ((f ep).getD z), .bool (f ep).isSome]) w := by
 obtain ⟨D, h1, h2⟩ := h
 obtain ⟨v, ps, hrun, hv⟩ := h1.look_ok epochKeyed ht hz (zd := .held (.agg z)) (zp := []) rfl (epoch_key ep he)
 simp only [asIs, Option.some.injEq, Prod.mk.injEq] at hv
 rw [h2.has] at hrun
 cases hf : f ep with
 | some k =>
  rw [h2.at_ ep k hf] at hv
  have h7 := hv.1
  injection h7 with h7
  rw [h7, hf] at hrun
  exact hrun
 | none =>
  have h5 : Maps.has D (epL ep) = false := by rw [h2.has, hf]; rfl
  rw [Maps.atKey_of_not_has h5] at hv
  have h7 := hv.1
  injection h7 with h7
  rw [h7, hf] at hrun
  exact hrun
theorem KeysAt.store {w : World} {b n : Nat} {f : Nat → Option (Array Value)} (h : KeysAt w b n f) {t e : TypeId} (ht : Tryz.prog.underlying t = some (.map 29 e)) (hn : n < maxLen) {ep : Nat} (he : ep < 4294967296) (v : Array Value) :
  ∃ w', (Instr.mapUpdate t (.map (some b)) (.int .u32 (ep : Int)) (.agg v)).run Tryz.prog w = .ok () w' ∧ KeysAt w' b (n + 1) (fun x => if x = ep then some v else f x) ∧ w.grownBy w' (some b) := by
 obtain ⟨D, h1, h2⟩ := h
 obtain ⟨w', hrun, h5, h6⟩ := h1.store epochKeyed ht hn (epoch_key ep he) (d := .held (.agg v)) (ps := []) rfl
 refine ⟨w', hrun, ⟨_, h5, h2.im.put _ _, fun x u hx z => ?_, fun x => ?_⟩, h6.grown⟩
 ·by_cases hxe : x = ep
  ·subst hxe
   simp only [if_true] at hx
   injection hx with hx
   rw [← hx]
   exact Maps.atKey_put_same h2.im (epL_key _) _ _
  ·rw [if_neg hxe] at hx
   rw [Maps.atKey_put_other (fun e => hxe (epL_inj e))]
   exact h2.at_ x u hx z
 ·by_cases hxe : x = ep
  ·subst hxe
   rw [if_pos rfl]
   exact Maps.has_put_same h2.im (epL_key _) _
  ·rw [if_neg hxe, Maps.has_put_other (fun e => hxe (epL_inj e))]
   exact h2.has x
def abvB (n d n2 d2 : Nat) : Bool := decide (n2 < n) || ((n == n2) && decide (d2 < d))
theorem idLn (n d : Nat) : (Tryz.prog.info? 75).map (·.size) = some (idV n d).size := by
 show _ = some 2
 kernel_rfl
theorem rabove_c (n d n2 d2 : Nat) (w : World) : Calls Tryz.prog 35 #[.agg (idV n d), .agg (idV n2 d2)] w fun e w' => e = .returned (.bool (abvB n d n2 d2)) ∧ Below w.heap.size w w' := by
 have HLP := Li (show abvB n d n2 d2 = (decide (n2 < n) || ((n == n2) && decide (d2 < d))) from rfl)
 generalize abvB n d n2 d2 = b at *
 obtain ⟨y, hy⟩ : ∃ y, ((n : Int) == (n2 : Int)) = y := ⟨_, rfl⟩
 have HY := Li hy
 go_enter Tryz.func35, Tryz.ntmps35
 go_upto_region 1 with (first
  | (refine Go.Great.wpList_boxTo rfl 75 (.tmp 0) rfl (some 2) rfl w.heap.size rfl (idV n d) rfl ?_)
  | (refine Go.Great.wpList_boxTo rfl 75 (.tmp 1) rfl (some 3) rfl (w.heap.size + 1) (by simp) (idV n2 d2) rfl ?_))
 obtain ⟨Z, hZ⟩ : ∃ Z, Z = (w.alloc (Obj.cells (idV n d) 75)).alloc (Obj.cells (idV n2 d2) 75) := ⟨_, rfl⟩
 have h1 := show Blk Z w.heap.size 75 (idV n d) by rw [hZ]; exact (Blk.new w _ _).alloc _
 have h2 := show Blk Z (w.heap.size + 1) 75 (idV n2 d2) by rw [hZ]; exact heap2P w _ _
 have HB := Li (show Below w.heap.size w Z by rw [hZ]; exact ((jE _ _).alloc (jD _) _).alloc (by simp) _)
 rw [← hZ]
 clear hZ
 have c0 : Z.cell? ⟨w.heap.size, 0, none⟩ = some (.int .u64 (n : Int)) := (h1.cell 0).trans rfl
 have c1 : Z.cell? ⟨w.heap.size, 1, none⟩ = some (.int .u16 (d : Int)) := (h1.cell 1).trans rfl
 have c2 : Z.cell? ⟨w.heap.size + 1, 0, none⟩ = some (.int .u64 (n2 : Int)) := (h2.cell 0).trans rfl
 have c3 : Z.cell? ⟨w.heap.size + 1, 1, none⟩ = some (.int .u16 (d2 : Int)) := (h2.cell 1).trans rfl
 clear h1 h2
 by_cases q1 : n2 < n
 ·have HQ := Li q1
  cases y <;> (go_wp2_with fail; go_ret; exact ⟨by rw [HLP.out, jF HQ.out]; simp, HB.out⟩)
 ·have HQ := Li q1
  cases y with
  | true =>
   have he : n = n2 := by have := HY.out; rw [beq_iff_eq] at this; omega
   have HE := Li he
   clear he
   go_wp2_with fail
   go_ret
   exact ⟨by rw [HLP.out, jG HQ.out, beq_iff_eq.2 HE.out]; simp, HB.out⟩
  | false =>
   have he : ¬ n = n2 := by have h := HY.out; intro e; rw [e] at h; simp at h
   have HE := Li he
   clear he
   go_wp2_with fail
   go_ret
   exact ⟨by rw [HLP.out, jG HQ.out, beq_eq_false_iff_ne.2 HE.out]; simp, HB.out⟩
theorem sliceInfoP : (Tryz.prog.info? 31).map (fun i => (i.zero, i.size, i.bytes)) = some (some (.slice none 0 0), 1, 24) := by kernel_rfl
theorem run_lists (w : World) (vs : List Value) (hv : ∀ v ∈ vs, ∃ A n c, v = .slice A n c) {o : Oper} {ρ : Operand → Value} (xs : Array (Nat × Operand)) (ho : o.op = .buildSlice 22 vs.length xs)
  (hx : (xs.map fun (p : Nat × Operand) => (p.1, ρ p.2)).toList = ((vs.zipIdx 0).map fun x => (x.2, x.1))) (hlen : vs.length ≤ 1000) (hpos : 0 < vs.length) :
  (execOp ρ o).run Tryz.prog w = .ok (.value (.slice (some ⟨w.heap.size, 0, none⟩) vs.length vs.length)) (w.alloc (.cells vs.toArray 31)) := by
 obtain ⟨i0, hi, hz0, hz1, hz2⟩ := info_parts sliceInfoP
 have h1 := run_buildSlice (P := Tryz.prog) w 22 31 vs.length (xs.map fun (p : Nat × Operand) => (p.1, ρ p.2)) vs.toArray i0 _ Tryz.underlying22 hi hz0 (by rw [hz1]; omega) (by rw [hz1]; omega) (by
  rw [hz1]
  refine (congrArg _ hx).trans ?_
  exact (Great.fill_flat vs _ (fun v hm => by
   obtain ⟨A, n, c, rfl⟩ := hv v hm
   rfl) (by simp)))
 unfold execOp
 simp only [ho, Sem.run_bind, h1, Result.andThen_ok]
 rfl
theorem lsAt_blk {W : World} {g : Nat} {vs : List Value} {Ls : List (List Pc)} (h : Blk W g 31 vs.toArray) (hv : ∀ i, i < Ls.length → ∃ Ai ci, vs[i]? = some (.slice Ai (Ls.getD i []).length ci) ∧ (Ls.getD i []).length ≤ ci ∧ RdP W W.heap.size Ai (Ls.getD i [])) : LsAt W (some ⟨g, 0, none⟩) Ls := fun i hi => by
 obtain ⟨Ai, ci, h1, h2, h3⟩ := hv i hi
 refine ⟨_, Ai, ci, rfl, h.lt, ?_, h2, h3⟩
 rw [Addr.add_mid, Nat.zero_add, h.cell]
 simpa using h1
theorem run_l1 (w : World) (A : Option Addr) (n c : Nat) {o : Oper} {ρ : Operand → Value} (x : Operand) (ho : o.op = .buildSlice 22 1 #[(0, x)]) (hx : ρ x = .slice A n c) :
  (execOp ρ o).run Tryz.prog w = .ok (.value (.slice (some ⟨w.heap.size, 0, none⟩) 1 1)) (w.alloc (.cells #[.slice A n c] 31)) :=
 run_lists w [.slice A n c] (by intro v hv; simp at hv; subst hv; exact ⟨_, _, _, rfl⟩) #[(0, x)] ho (by simp [hx]) (by simp) (by simp)
section
variable {P : Program} {ops : Array Oper} {Q : Exit → Act → World → Prop} {rest : List Oper} {o : Oper} {a : Act}
theorem wpList_l1 {w : World} (x : Operand) (ho : o.op = .buildSlice 22 1 #[(0, x)]) (A : Option Addr) (n c : Nat) (hx : a.eval x = .slice A n c) (hw : Region.wanted o (yielded ops a.tmps) = true)
  (h : wpList Tryz.prog ops Q rest (a.put o.dst (.slice (some ⟨w.heap.size, 0, none⟩) 1 1)) (w.alloc (.cells #[.slice A n c] 31))) : wpList Tryz.prog ops Q (o :: rest) a w :=
 wpList_valM hw _ _ (run_l1 w A n c x ho hx) h
end
def GsV (W : World) (xs : List Value) (gs : List (List Pc)) : Prop := xs.length = gs.length ∧ ∀ i, i < gs.length → ∃ Ai ci, xs[i]? = some (.slice Ai (gs.getD i []).length ci) ∧ (gs.getD i []).length ≤ ci ∧ RdP W W.heap.size Ai (gs.getD i [])
theorem GsV.next {W W' : World} {xs : List Value} {gs : List (List Pc)} (h : GsV W xs gs) (hb : Below W.heap.size W W') : GsV W' xs gs := ⟨h.1, fun i hi => by
 obtain ⟨Ai, ci, h1, h2, h3⟩ := h.2 i hi
 exact ⟨Ai, ci, h1, h2, (Rd.below (show Rd W W.heap.size Ai (pcs _) from h3) hb).more hb.size⟩⟩
theorem GsV.snoc {W : World} {xs : List Value} {gs : List (List Pc)} {A : Option Addr} {c : Nat} {g : List Pc} (h : GsV W xs gs) (hc : g.length ≤ c) (hr : RdP W W.heap.size A g) : GsV W (xs ++ [.slice A g.length c]) (gs ++ [g]) := by
 refine ⟨by simp [h.1], fun i hi => ?_⟩
 by_cases hl : i < gs.length
 ·obtain ⟨Ai, ci, h1, h2, h3⟩ := h.2 i hl
  have e : (gs ++ [g]).getD i [] = gs.getD i [] := by rw [jA, List.getElem?_append_left hl, jA]
  rw [e]
  exact ⟨Ai, ci, by rw [List.getElem?_append_left (by rw [h.1]; exact hl)]; exact h1, h2, h3⟩
 ·have hi' : i = gs.length := by simp at hi; omega
  subst hi'
  have e : (gs ++ [g]).getD gs.length [] = g := by rw [jA, List.getElem?_append_right (jD _)]; simp
  rw [e]
  exact ⟨A, c, by rw [List.getElem?_append_right (by rw [h.1]; exact jD _)]; simp [h.1], hc, hr⟩
theorem rdP_sub {W : World} {B : Nat} {ad : Addr} {l : List Pc} (h : AtA W ad (pcs l)) (hB : ad.block < B) (k n : Nat) : RdP W B (some (ad.add (k * 5))) ((l.drop k).take n) := fun _ => ⟨_, rfl, by rw [add_block]; exact hB, by
 have h1 := h.drop (k * 5) (n * 5)
 rw [← pcs_drop, ← pcs_take] at h1
 exact h1⟩
structure CutI (W1 : World) (gs : List (List Pc)) (xs : List Value) (wr : World) (ov : Value) : Prop where
 own : OwnG wr W1.heap.size ov xs
 bel : Below W1.heap.size W1 wr
 gv : GsV W1 xs gs
theorem CutI.next {W1 wr wr' : World} {gs : List (List Pc)} {xs : List Value} {ov : Value} (h : CutI W1 gs xs wr ov) (hb : Below wr.heap.size wr wr') : CutI W1 gs xs wr' ov :=
 ⟨h.own.next hb, h.bel.trans (hb.mono h.bel.size), h.gv⟩
end Go.Proofs.YtfnhmnbcponkfaaGreatDoor
