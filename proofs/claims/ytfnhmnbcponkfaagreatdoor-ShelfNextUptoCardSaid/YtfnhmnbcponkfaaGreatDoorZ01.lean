/- Parts, one behind the other: Kit Lift App Only Eq Byt0 Bas Lou Bas2. -/
import Derived.Test.YtfnhmnbcponkfaaGreatDoorRows
import Derived.Test.YtfnhmnbcponkfaaGreatDoorChecked
import Derived.WalkKit
import Derived.Deep.Draws
import Derived.Deep.QuietTactic
import Derived.BigQuiet
import Derived.ProofKit
import Derived.OpenShut
import Derived.ShutString
import Derived.ChangeOld
import Derived.Below
import Derived.Maps.AppendAt
import Derived.Laws.AppendOwnNone
import Derived.Deep.AppendLies
import Derived.OwnWalk
import Derived.DeepKeys
import Derived.Laws.StructEq
import Derived.WalkSpells
import Derived.Outline
import Derived.Deep.Light
import Derived.BigRegion
import Derived.Lib.Hide
import Derived.Laws.MakeOwn
import Derived.Great.BuildSlice
import Derived.Deep.MidRow
import Derived.Laws.Cover3
import Derived.StillTailTactics
import Derived.WalkMore
import Derived.Laws.Rows
import Derived.Laws.ResultCell
set_option maxRecDepth 100000
set_option linter.unusedVariables false
set_option linter.unusedSimpArgs false
set_option maxHeartbeats 400000
namespace Go.Proofs.YtfnhmnbcponkfaaGreatDoor
open Go.RowKit
theorem Li {p : Prop} (h : p) : Go.RowKit.Hid p := Lib.hid h
theorem sI {α : Type} (l : List α) (i : Nat) (a : α) : l.toArray.setIfInBounds i a = (l.set i a).toArray := List.setIfInBounds_toArray l i a
theorem sS {α : Type} (x : α) (xs : List α) (n : Nat) (a : α) : (x :: xs).set (n + 1) a = x :: xs.set n a := rfl
theorem sZ {α : Type} (x : α) (xs : List α) (a : α) : (x :: xs).set 0 a = a :: xs := rfl
theorem jA {α : Type} {l : List α} {i : Nat} {a : α} : l.getD i a = l[i]?.getD a := List.getD_eq_getElem?_getD
theorem jB {α : Type} {l : List α} {i : Nat} (h : i < l.length) : l[i]? = some l[i] := List.getElem?_eq_getElem h
theorem jC {α : Type} {l m : List α} : (l ++ m).length = l.length + m.length := List.length_append
theorem jD (n : Nat) : n ≤ n := Nat.le_refl n
theorem jE (n : Nat) (w : Go.World) : Go.RowKit.Below n w w := Go.RowKit.Below.refl n w
theorem jF {p : Prop} [Decidable p] (h : p) : decide p = true := decide_eq_true h
theorem jG {p : Prop} [Decidable p] (h : ¬ p) : decide p = false := decide_eq_false h
theorem jH {n m k : Nat} (h : n < m) (h' : m ≤ k) : n < k := Nat.lt_of_lt_of_le h h'
theorem cellOf {w : World} {B i : Nat} {cs : Array Value} {T : TypeId} {fz : Nat × Nat} {v : Value} (h : w.heap[B]? = some (.cells cs T fz)) (hv : cs[i]? = some v) : w.cell? ⟨B, i, none⟩ = some v := by
 simp [World.cell?, h, hv]
theorem freeOf {w : World} {B i : Nat} {cs : Array Value} {T : TypeId} (h : w.heap[B]? = some (.cells cs T (0, 0))) : w.frozen? ⟨B, i, none⟩ = false := by
 simp [World.frozen?, h]
theorem heapSet {w : World} {B i : Nat} {cs : Array Value} {T : TypeId} {fz : Nat × Nat} (v : Value) (h : w.heap[B]? = some (.cells cs T fz)) : (w.setCell ⟨B, i, none⟩ v).heap[B]? = some (.cells (cs.setIfInBounds i v) T fz) := by
 simp only [World.setCell, Array.getElem?_modify, if_true, h]; rfl
theorem heapSize_set (w : World) (a : Addr) (v : Value) : (w.setCell a v).heap.size = w.heap.size := by simp [World.setCell]
theorem heapNew (w : World) (o : Obj) : (w.alloc o).heap[w.heap.size]? = some o := by
 show (w.heap.push o)[w.heap.size]? = some o
 simp
theorem belowDrewN {B : Nat} {a w : World} (n : Nat) (h : Below B a w) : Below B a (w.drewN n) := ⟨h.os, h.tape, h.output, h.size, h.block⟩
theorem add_block (a : Addr) (n : Nat) : (a.add n).block = a.block := by unfold Addr.add; split <;> rfl
def Rd (w : World) (B : Nat) (A : Option Addr) (xs : List Value) : Prop :=
 xs ≠ [] → ∃ ad, A = some ad ∧ ad.block < B ∧ ∀ (j : Nat) (u : Value), xs[j]? = some u → w.cell? (ad.add j) = some u
theorem Rd.nil_ (w : World) (B : Nat) (A : Option Addr) : Rd w B A [] := fun h => absurd rfl h
theorem Rd.keep {w w' : World} {B : Nat} {A : Option Addr} {xs : List Value} (h : Rd w B A xs) (hk : ∀ p : Addr, p.block < B → w'.cell? p = w.cell? p) : Rd w' B A xs := fun hn => by
 obtain ⟨ad, e, hb, hc⟩ := h hn
 exact ⟨ad, e, hb, fun j u hu => (hk _ (by rw [add_block]; exact hb)).trans (hc j u hu)⟩
theorem Rd.below {w w' : World} {B : Nat} {A : Option Addr} {xs : List Value} (h : Rd w B A xs) (hb : Below B w w') : Rd w' B A xs := h.keep fun _ hp => hb.cell hp
theorem Rd.more {w : World} {B B' : Nat} {A : Option Addr} {xs : List Value} (h : Rd w B A xs) (hB : B ≤ B') : Rd w B' A xs := fun hn => by
 obtain ⟨ad, e, hb, hc⟩ := h hn
 exact ⟨ad, e, by omega, hc⟩
def byt (l : List Nat) : List Value := l.map fun (n : Nat) => Value.int .u8 (n : Int)
theorem byt_len (l : List Nat) : (byt l).length = l.length := by simp [byt]
theorem byt_at {l : List Nat} {k : Nat} (h : k < l.length) : (byt l)[k]? = some (.int .u8 (l.getD k 0 : Nat)) := by
 simp [byt, h, jA]
theorem Rd.byte {w : World} {B : Nat} {A : Option Addr} {l : List Nat} (h : Rd w B A (byt l)) {k : Nat} (hk : k < l.length) :
  ∃ ad, A = some ad ∧ ad.block < B ∧ w.cell? (ad.add k) = some (.int .u8 (l.getD k 0 : Nat)) := by
 obtain ⟨ad, e, hb, hc⟩ := h (fun h0 => by have := byt_len l; rw [h0] at this; simp at this; omega)
 exact ⟨ad, e, hb, hc k _ (byt_at hk)⟩
theorem getD_lt {l : List Nat} (h : ∀ c ∈ l, c < 256) (k : Nat) : l.getD k 0 < 256 := by
 rw [jA]
 rcases Nat.lt_or_ge k l.length with hk | hk
 ·rw [jB hk]; exact h _ (List.getElem_mem _)
 ·rw [List.getElem?_eq_none hk]; simp
theorem drop_lt {l : List Nat} (h : ∀ c ∈ l, c < 256) (k : Nat) : ∀ c ∈ l.drop k, c < 256 := fun c hc => h c (List.mem_of_mem_drop hc)
theorem wp_region_class {P : Program} {Om : Type} (W : Om → World) {id : Nat} {Q : Exit → Act → World → Prop} {a : Act} {w : World} {l : List Oper} (hm : P.follows .mixedOrders = true) (hB : Region.lexB .any l.toArray = true) (hC : ∃ x, w.drew = W x)
  (h : wpQuiet P l.toArray (fun w' => ∃ x, w' = W x) (fun a' => ∀ w', (∃ x, w' = W x) → Q .normal a' w') l a) : (Code.region id l.toArray true).wp P Q a w :=
 wp_region_quiet (C := fun w' => ∃ x, w' = W x) hm hB hC (by simpa using h)
def Ext (w0 : World) : Type := { w : World // Below w0.heap.size w0 w }
instance Ext.some_ {w0 : World} : Nonempty (Ext w0) := ⟨⟨w0, jE _ _⟩⟩
def Ext.wd {w0 : World} (x : Ext w0) : World := x.1
theorem Ext.of {w0 w : World} (h : Below w0.heap.size w0 w) : ∃ x : Ext w0, w = x.wd := ⟨⟨w, h⟩, rfl⟩
theorem Ext.bel {w0 : World} (x : Ext w0) : Below w0.heap.size w0 x.wd := x.2
theorem Ext.cell {w0 : World} (x : Ext w0) {a : Addr} {v : Value} (h : w0.cell? a = some v) : x.wd.cell? a = some v := by
 have hb : a.block < w0.heap.size := by
  rcases Nat.lt_or_ge a.block w0.heap.size with h1 | h1
  ·exact h1
  ·simp [World.cell?, Array.getElem?_eq_none h1] at h
 exact (x.2.cell hb).trans h
theorem ext_call {P : Program} {f : FuncId} {args : Array Value} {w0 : World} {x : Ext w0} {v : Value}
  (h : Calls P f args x.wd fun e w' => e = .returned v ∧ Below x.wd.heap.size x.wd w') : Calls P f args x.wd fun e w'' => e = .returned v ∧ ∃ y : Ext w0, w'' = y.wd :=
 h.mono fun _ _ ⟨he, hb⟩ => ⟨he, Ext.of (x.2.trans (hb.mono x.2.size))⟩
def Yes (w : World) (e : Ending) (w' : World) : Prop := e = .returned (.bool true) ∧ Below w.heap.size w w'
end Go.Proofs.YtfnhmnbcponkfaaGreatDoor
namespace Go.Proofs.YtfnhmnbcponkfaaGreatDoor
open Go.ChangeShapes Go.WideShapes Go.ChangeAt Go.RowKit
theorem own : ownKnob Tryz.prog.godebug = none := by kernel_rfl
theorem laidOut : laidOutB Tryz.prog = true := by kernel_rfl
theorem trodAll_below {H : Type} {enc : TypeId × Value → H} {P : Program} (hl : laidOutB P = true) {W W' : World} (hb : Below W.heap.size W W') :
  ∀ (ts : List TypeId) (vs : List Value) (ds : List (DataW H)) (ps : List MemPlace), (∀ t ∈ ts, P.readableRec t = true ∧ t < P.types.size) →
   DataW.TrodAll enc P W 0 (fun _ => true) true ts vs ds ps → (∀ x ∈ ps, x.block < W.heap.size) →
   DataW.TrodAll enc P W' 0 (fun b => decide (b < W.heap.size)) true ts vs ds ps
 | [], vs, ds, ps, _, h, _ => by
  obtain ⟨rfl, rfl, rfl⟩ := trodAll_nil h
  exact trodAll_mk0
 | t :: ts, vs, ds, ps, ht, h, hlt => by
  obtain ⟨v0, vs0, d0, ds0, p0, q0, rfl, rfl, rfl, h0, r0⟩ := trodAll_cons h
  have h1 := ht t (by simp)
  exact trodAll_cons_mk (Below.trod hl h1.1 h1.2 h0 hb (fun x hx => hlt x (by simp [hx])))
   (trodAll_below hl hb ts vs0 ds0 q0 (fun t' h' => ht t' (by simp [h'])) r0 (fun x hx => hlt x (by simp [hx])))
theorem trodAll_length {H : Type} {enc : TypeId × Value → H} {P : Program} {W : World} {b : Nat} {sp : Nat → Bool} {hd : Bool} :
  ∀ (ts : List TypeId) (vs : List Value) (ds : List (DataW H)) (ps : List MemPlace), DataW.TrodAll enc P W b sp hd ts vs ds ps → ds.length = ts.length
 | [], vs, ds, ps, h => by
  obtain ⟨rfl, rfl, rfl⟩ := trodAll_nil h
  rfl
 | t :: ts, vs, ds, ps, h => by
  obtain ⟨v0, vs0, d0, ds0, p0, q0, rfl, rfl, rfl, h0, r0⟩ := trodAll_cons h
  simp [trodAll_length ts vs0 ds0 q0 r0]
def LawSpec (s : ChangeSpec) (n : Nat) : Prop := s.vars = [] ∧ ∀ (H : Type) (ds : List (DataW H)), ds.length = n → s.fn H ds = { results := [.lit (.bool true)], args := ds }
theorem block_lt {w : World} {a : Addr} {v : Value} (h : w.cell? a = some v) : a.block < w.heap.size := by
 rcases Nat.lt_or_ge a.block w.heap.size with h1 | h1
 ·exact h1
 ·simp [World.cell?, Array.getElem?_eq_none h1] at h
theorem open_bytes {H : Type} {enc : TypeId × Value → H} {W : World} {base : Nat} {v : Value} {d : DataW H} {p : List MemPlace} (hv : Value.okWide Tryz.prog W .any base 23 v)
  (h : DataW.Trod enc Tryz.prog W 0 (fun _ => true) true 23 v d p) :
  ∃ (A : Option Addr) (l : List Nat) (cap : Nat), v = .slice A l.length cap ∧ (∀ c ∈ l, c < 256) ∧ Rd W W.heap.size A (byt l) ∧ l.length ≤ maxLen := by
 obtain ⟨A, len, cap, rfl⟩ := okWide_slice Tryz.underlying23 hv
 obtain ⟨fuel, hf⟩ := h
 rcases open_ints Tryz.underlying23 Tryz.underlying5 (by kernel_rfl) hf with ⟨hcs, _⟩ | ⟨x, l, c, zs, hcs, _, hl, hm, hz, _, hcell, hwz⟩
 ·simp [Value.cells] at hcs
  obtain ⟨rfl, rfl, rfl⟩ := hcs
  exact ⟨none, [], 0, rfl, by simp, Rd.nil_ _ _ _, by simp⟩
 ·simp [Value.cells] at hcs
  obtain ⟨rfl, rfl, rfl⟩ := hcs
  have hz' : zs.length = cap := by simpa using hz
  have hlen : ((zs.take len).map Int.toNat).length = len := by simp; omega
  refine ⟨some x, (zs.take len).map Int.toNat, cap, by rw [hlen], ?_, ?_, by rw [hlen]; omega⟩
  ·intro c hc
   obtain ⟨z, hz1, rfl⟩ := List.mem_map.1 hc
   have := bounds_u8 (hwz z (List.mem_of_mem_take hz1))
   omega
  ·intro hne
   have h0 : 0 < len := by
    rcases Nat.eq_zero_or_pos len with h0 | h0
    ·subst h0; simp [byt] at hne
    ·exact h0
   have hc0 := hcell 0 (by omega)
   refine ⟨x, rfl, by have := block_lt hc0; rwa [add_block] at this, fun j u hu => ?_⟩
   have hj : j < len := by
    rcases Nat.lt_or_ge j len with h1 | h1
    ·exact h1
    ·rw [List.getElem?_eq_none (by rw [byt_len, hlen]; exact h1)] at hu; cases hu
   have hjz : j < zs.length := by omega
   rw [hcell j hjz]
   rw [byt_at (by rw [hlen]; exact hj)] at hu
   rw [← hu, jA, jA, List.getElem?_map, List.getElem?_take_of_lt hj, jB hjz]
   have := bounds_u8 (hwz zs[j] (List.getElem_mem _))
   simp
   omega
end Go.Proofs.YtfnhmnbcponkfaaGreatDoor
namespace Go.Proofs.YtfnhmnbcponkfaaGreatDoor
open Go.RowKit
structure Apped (w : World) (base : Nat) (e : TypeId) (size : Nat) (v : Value) (w' : World) (v' : Value) (n : Nat) (xs : List Value) : Prop where
 own : w'.ownsRow base e size v' n xs
 grown : w.grownBy w' v.ownBlock
 lies : v'.ownBlock = v.ownBlock ∨ v'.ownBlock = some w.heap.size
theorem own_base {w : World} {base : Nat} {e : TypeId} {size n : Nat} {v : Value} {xs : List Value} (h : w.ownsRow base e size v n xs) : ∀ g, v.ownBlock = some g → base ≤ g := by
 intro g hg
 rcases h.2 with ⟨rfl, _⟩ | ⟨g', cap, cur, rfl, hb, _⟩
 ·simp [Value.ownBlock] at hg
 ·simp [Value.ownBlock] at hg; omega
theorem own_lt {w : World} {base : Nat} {e : TypeId} {size n : Nat} {v : Value} {xs : List Value} (h : w.ownsRow base e size v n xs) : ∀ g, v.ownBlock = some g → g < w.heap.size := by
 intro g hg
 rcases h.2 with ⟨rfl, _⟩ | ⟨g', cap, cur, rfl, _, hh, _⟩
 ·simp [Value.ownBlock] at hg
 ·simp [Value.ownBlock] at hg
  subst hg
  rcases Nat.lt_or_ge g' w.heap.size with h1 | h1
  ·exact h1
  ·rw [Array.getElem?_eq_none h1] at hh; cases hh
theorem Apped.below {w w' : World} {base : Nat} {e : TypeId} {size n n0 : Nat} {v v' : Value} {xs xs0 : List Value} (h : Apped w base e size v w' v' n xs) (h0 : w.ownsRow base e size v n0 xs0) (hb : base ≤ w.heap.size) : Below base w w' :=
 (jE _ _).grown h.grown hb (fun k hk => own_base h0 k hk)
theorem own_rd {w : World} {base : Nat} {e : TypeId} {size n : Nat} {v : Value} {xs : List Value} (h : w.ownsRow base e size v n xs) : ∃ A cap, v = .slice A n cap ∧ n ≤ cap ∧ cap ≤ maxLen ∧ Rd w w.heap.size A xs := by
 rcases h.2 with ⟨rfl, rfl⟩ | ⟨g, cap, cur, rfl, hb, hh, hn, hm, hc, ht⟩
 ·exact ⟨none, 0, rfl, jD _, by simp [maxLen], fun hne => absurd (List.eq_nil_of_length_eq_zero (by simpa using h.1)) hne⟩
 ·have hg : g < w.heap.size := by
   rcases Nat.lt_or_ge g w.heap.size with h1 | h1
   ·exact h1
   ·rw [Array.getElem?_eq_none h1] at hh; cases hh
  refine ⟨_, cap, rfl, hn, hm, fun _ => ⟨_, rfl, hg, fun j u hu => ?_⟩⟩
  have hj : j < n * size := by
   rcases Nat.lt_or_ge j (n * size) with h1 | h1
   ·exact h1
   ·rw [List.getElem?_eq_none (by rw [h.1]; exact h1)] at hu; cases hu
  have e1 : (Addr.add ⟨g, 0, none⟩ j) = ⟨g, j, none⟩ := by
   unfold Addr.add; split
   ·subst_vars; rfl
   ·simp
  rw [e1]
  refine cellOf hh ?_
  rw [← ht, List.getElem?_take_of_lt hj] at hu
  simpa using hu
section
variable {P : Program} (w : World)
theorem run_app_nil (base : Nat) (t ty e : TypeId) (i : TypeInfo) (size : Nat) (ht : P.underlying t = some (.slice e)) (hi : P.info? e = some i)
  (v : Value) (n : Nat) (xs : List Value) (hown : w.ownsRow base e size v n xs) (A : Option Addr) (c : Nat) (hA : A = none) : (Builtin.append_ #[t, t] ty #[v, .slice A 0 c]).run P w = .ok v w := by
 subst hA
 rcases hown.2 with ⟨rfl, rfl⟩ | ⟨g, cap, cur, rfl, _, _, hnc, _⟩
 ·simp [Builtin.append_, run_underlying ht, sizeOf, typeInfo, hi, Builtin.lenOf, Builtin.firstCells]
 ·simp [Builtin.append_, run_underlying ht, sizeOf, typeInfo, hi, Builtin.lenOf, Builtin.firstCells, hnc, storeCells]
theorem run_app (base : Nat) (t ty e : TypeId) (i : TypeInfo) (z : Value) (size bytes : Nat) (ht : P.underlying t = some (.slice e)) (hi : P.info? e = some i) (hz : i.zero = some z)
  (hsize : i.size = size) (hby : i.bytes = bytes) (hzs : z.cells.size = size) (hsz : 0 < size)
  (v : Value) (n : Nat) (xs : List Value) (hown : w.ownsRow base e size v n xs)
  (Bs : Nat) (A : Option Addr) (m c : Nat) (news : List Value) (hl : news.length = m * size) (hr : Rd w Bs A news) (h1 : ∀ u ∈ news, u.oneCell' = true)
  (hn : n + m ≤ 1000000000) (hbytes : (n + m) * bytes ≤ 140737488355328) (hbase : base ≤ w.heap.size) :
  ∃ v' w', (Builtin.append_ #[t, t] ty #[v, .slice A m c]).run P w = .ok v' w' ∧ Apped w base e size v w' v' (n + m) (xs ++ news) := by
 have h63 : n + m ≤ maxLen := by simp only [maxLen]; omega
 rcases Nat.eq_zero_or_pos m with h0 | h0
 ·subst h0
  have hnil : news = [] := List.eq_nil_of_length_eq_zero (by simpa using hl)
  subst hnil
  rcases A with _ | ad
  ·exact ⟨v, w, run_app_nil w base t ty e i size ht hi v n xs hown none c rfl, ⟨by simpa using hown, World.grownBy.refl w _, .inl rfl⟩⟩
  ·obtain ⟨v', w', hrun, h2, h3, _, h5⟩ := run_append_own_at (P := P) w base t ty e i z size bytes ht hi hz hsize hby hzs hsz v n xs hown ad 0 c [] hl (fun j u hu => by simp at hu) h1 h63 hbytes hbase
   exact ⟨v', w', hrun, h2, h3, h5⟩
 ·have hne : news ≠ [] := fun hnil => by
   rw [hnil] at hl
   have : 0 < m * size := Nat.mul_pos h0 hsz
   simp at hl; omega
  obtain ⟨ad, rfl, _, hc⟩ := hr hne
  obtain ⟨v', w', hrun, h2, h3, _, h5⟩ := run_append_own_at (P := P) w base t ty e i z size bytes ht hi hz hsize hby hzs hsz v n xs hown ad m c news hl hc h1 h63 hbytes hbase
  exact ⟨v', w', hrun, h2, h3, h5⟩
theorem wp_app {o : Oper} {a : Act} {K : Act → World → Prop} {Q : Exit → Act → World → Prop} (s x : Operand) (t : TypeId)
  (ho : o.op = .call { callee := .builtin .append, args := #[s, x], argTypes := #[t, t] })
  (base : Nat) (e : TypeId) (i : TypeInfo) (z : Value) (size bytes : Nat) (ht : P.underlying t = some (.slice e)) (hi : P.info? e = some i) (hz : i.zero = some z)
  (hsize : i.size = size) (hby : i.bytes = bytes) (hzs : z.cells.size = size) (hsz : 0 < size)
  (v : Value) (n : Nat) (xs : List Value) (hs : a.eval s = v) (hown : w.ownsRow base e size v n xs)
  (Bs : Nat) (A : Option Addr) (m c : Nat) (news : List Value) (hx : a.eval x = .slice A m c) (hl : news.length = m * size) (hr : Rd w Bs A news) (h1 : ∀ u ∈ news, u.oneCell' = true)
  (hn : n + m ≤ 1000000000) (hbytes : (n + m) * bytes ≤ 140737488355328) (hbase : base ≤ w.heap.size)
  (h : ∀ v' w', Apped w base e size v w' v' (n + m) (xs ++ news) → K (a.put o.dst v') w') : o.wp P a w K Q := by
 obtain ⟨v', w', hrun, h2⟩ := run_app (P := P) w base t o.type e i z size bytes ht hi hz hsize hby hzs hsz v n xs hown Bs A m c news hl hr h1 hn hbytes hbase
 unfold Oper.wp execOp
 simp only [ho, resolve, invoke, builtin, Sem.run_bind, Sem.run_pure, Result.andThen_ok, List.map_toArray, List.map_cons, List.map_nil, hs, hx, hrun]
 exact h v' w' h2
theorem wpList_app {ops : Array Oper} {rest : List Oper} {o : Oper} {a : Act} {Q : Exit → Act → World → Prop} (hw : Region.wanted o (yielded ops a.tmps) = true) (s x : Operand) (t : TypeId)
  (ho : o.op = .call { callee := .builtin .append, args := #[s, x], argTypes := #[t, t] })
  (base : Nat) (e : TypeId) (i : TypeInfo) (z : Value) (size bytes : Nat) (ht : P.underlying t = some (.slice e)) (hi : P.info? e = some i) (hz : i.zero = some z)
  (hsize : i.size = size) (hby : i.bytes = bytes) (hzs : z.cells.size = size) (hsz : 0 < size)
  (v : Value) (n : Nat) (xs : List Value) (hs : a.eval s = v) (hown : w.ownsRow base e size v n xs)
  (Bs : Nat) (A : Option Addr) (m c : Nat) (news : List Value) (hx : a.eval x = .slice A m c) (hl : news.length = m * size) (hr : Rd w Bs A news) (h1 : ∀ u ∈ news, u.oneCell' = true)
  (hn : n + m ≤ 1000000000) (hbytes : (n + m) * bytes ≤ 140737488355328) (hbase : base ≤ w.heap.size)
  (h : ∀ v' w', Apped w base e size v w' v' (n + m) (xs ++ news) → wpList P ops Q rest (a.put o.dst v') w') : wpList P ops Q (o :: rest) a w :=
 wpList_step fun K hK => by
  rw [if_pos hw]
  exact wp_app w s x t ho base e i z size bytes ht hi hz hsize hby hzs hsz v n xs hs hown Bs A m c news hx hl hr h1 hn hbytes hbase fun v' w' h2 => hK _ _ (h v' w' h2)
end
theorem byt_one (l : List Nat) : ∀ u ∈ byt l, u.oneCell' = true := by
 intro u hu
 obtain ⟨n, _, rfl⟩ := List.mem_map.1 hu
 rfl
theorem byt_app (l m : List Nat) : byt l ++ byt m = byt (l ++ m) := by simp [byt]
def OwnB (w : World) (base : Nat) (v : Value) (l : List Nat) : Prop := w.ownsRow base 5 1 v l.length (byt l)
theorem OwnB.nil_ (w : World) (base : Nat) : OwnB w base (.slice none 0 0) [] := ⟨rfl, .inl ⟨rfl, rfl⟩⟩
theorem OwnB.rd {w : World} {base : Nat} {v : Value} {l : List Nat} (h : OwnB w base v l) : ∃ A cap, v = .slice A l.length cap ∧ l.length ≤ cap ∧ cap ≤ maxLen ∧ Rd w w.heap.size A (byt l) := own_rd h
theorem OwnB.alloc {w : World} {base : Nat} {v : Value} {l : List Nat} (h : OwnB w base v l) (o : Obj) : OwnB (w.alloc o) base v l := World.ownsRow.alloc h o
theorem OwnB.drewN {w : World} {base : Nat} {v : Value} {l : List Nat} (h : OwnB w base v l) (n : Nat) : OwnB (w.drewN n) base v l := h
theorem OwnB.drew {w : World} {base : Nat} {v : Value} {l : List Nat} (h : OwnB w base v l) : OwnB w.drew base v l := h
theorem rd_new (w : World) (cs : List Value) (T : TypeId) (fz : Nat × Nat) : Rd (w.alloc (.cells cs.toArray T fz)) (w.heap.size + 1) (some ⟨w.heap.size, 0, none⟩) cs := fun _ =>
 ⟨_, rfl, Nat.lt_succ_self _, fun j u hu => by
  have e1 : (Addr.add ⟨w.heap.size, 0, none⟩ j) = ⟨w.heap.size, j, none⟩ := by
   unfold Addr.add; split
   ·subst_vars; rfl
   ·simp
  rw [e1]
  exact cellOf (heapNew w _) (by simpa using hu)⟩
theorem OwnB.snoc {w w' : World} {base : Nat} {v v' : Value} {l : List Nat} {c : Nat} (h : Apped w base 5 1 v w' v' (l.length + 1) (byt l ++ [.int .u8 (c : Int)])) : OwnB w' base v' (l ++ [c]) := by
 have := h.own
 unfold OwnB
 rw [jC, ← byt_app]
 exact this
theorem OwnB.new (w : World) (base : Nat) (l : List Nat) (hb : base ≤ w.heap.size) (hm : l.length ≤ maxLen) : OwnB (w.alloc (.cells (byt l).toArray 5)) base (.slice (some ⟨w.heap.size, 0, none⟩) l.length l.length) l :=
 ⟨by simp [byt_len], .inr ⟨w.heap.size, l.length, _, rfl, hb, heapNew _ _, jD _, hm, by simp [byt_len], List.take_of_length_le (by simp [byt_len])⟩⟩
theorem OwnB.app {w w' : World} {base : Nat} {v v' : Value} {l m : List Nat} (h : Apped w base 5 1 v w' v' (l.length + m.length) (byt l ++ byt m)) : OwnB w' base v' (l ++ m) := by
 have := h.own
 unfold OwnB
 rw [jC, ← byt_app]
 exact this
structure Only (S : Nat → Prop) (w w' : World) : Prop where
 os : w'.os = w.os
 tape : w'.tape = w.tape
 output : w'.output = w.output
 size : w.heap.size ≤ w'.heap.size
 block : ∀ k, k < w.heap.size → ¬ S k → w'.heap[k]? = w.heap[k]?
section
variable {S T : Nat → Prop} {w w' w'' : World}
theorem Only.refl (S : Nat → Prop) (w : World) : Only S w w := ⟨rfl, rfl, rfl, jD _, fun _ _ _ => rfl⟩
theorem Only.trans (h : Only S w w') (k : Only S w' w'') : Only S w w'' :=
 ⟨k.os.trans h.os, k.tape.trans h.tape, k.output.trans h.output, Nat.le_trans h.size k.size, fun i hi hn => (k.block i (jH hi h.size) hn).trans (h.block i hi hn)⟩
theorem Only.mono (h : Only S w w') (hS : ∀ i, i < w.heap.size → S i → T i) : Only T w w' :=
 ⟨h.os, h.tape, h.output, h.size, fun i hi hn => h.block i hi (fun hs => hn (hS i hi hs))⟩
theorem Only.of_below (h : Below w.heap.size w w') : Only S w w' := ⟨h.os, h.tape, h.output, h.size, fun i hi _ => h.block i hi⟩
theorem Only.below {B : Nat} (h : Only S w w') (hS : ∀ i, S i → B ≤ i) (hB : B ≤ w.heap.size) : Below B w w' := ⟨h.os, h.tape, h.output, h.size, fun i hi => h.block i (by omega) (fun hs => by have := hS i hs; omega)⟩
theorem Only.of_grown {row : Option Nat} (h : w.grownBy w' row) (hS : ∀ i, row = some i → S i) : Only S w w' := ⟨h.os, h.tape, h.output, h.size, fun i hi hn => h.block i hi (fun e => hn (hS i e.symm))⟩
theorem Only.drew (h : Only S w w') : Only S w w'.drew := ⟨h.os, h.tape, h.output, h.size, h.block⟩
theorem Only.drewN (h : Only S w w') (n : Nat) : Only S w (w'.drewN n) := ⟨h.os, h.tape, h.output, h.size, h.block⟩
theorem Only.alloc (h : Only S w w') (o : Obj) : Only S w (w'.alloc o) :=
 ⟨h.os, h.tape, h.output, Nat.le_trans h.size (by simp), fun i hi hn => (Below.heap_alloc _ _ _ (jH hi h.size)).trans (h.block i hi hn)⟩
theorem Only.setCell (h : Only S w w') {p : Addr} (hp : p.block < w.heap.size → S p.block) (u : Value) : Only S w (w'.setCell p u) :=
 ⟨h.os, h.tape, h.output, by rw [heapSize_set]; exact h.size, fun i hi hn => (Below.heap_setCell _ _ _ _ (fun e => hn (by subst e; exact hp hi))).trans (h.block i hi hn)⟩
theorem Only.cell (h : Only S w w') {a : Addr} {v : Value} (hc : w.cell? a = some v) (hn : ¬ S a.block) : w'.cell? a = some v := by
 have hlt : a.block < w.heap.size := by
  rcases Nat.lt_or_ge a.block w.heap.size with h1 | h1
  ·exact h1
  ·simp [World.cell?, Array.getElem?_eq_none h1] at hc
 exact (World.cell?_of_block (h.block _ hlt hn)).trans hc
theorem Only.rd {B : Nat} {A : Option Addr} {xs : List Value} (h : Only S w w') (hr : Rd w B A xs) (hn : ∀ a, A = some a → ¬ S a.block) : Rd w' B A xs := fun hne => by
 obtain ⟨ad, e, hb, hc⟩ := hr hne
 exact ⟨ad, e, hb, fun j u hu => h.cell (hc j u hu) (by rw [add_block]; exact hn ad e)⟩
def Blk (w : World) (g : Nat) (t : TypeId) (cs : Array Value) : Prop := w.heap[g]? = some (.cells cs t (0, 0))
theorem Blk.lt {g : Nat} {t : TypeId} {cs : Array Value} (h : Blk w g t cs) : g < w.heap.size := by
 rcases Nat.lt_or_ge g w.heap.size with hlt | hge
 ·exact hlt
 ·unfold Blk at h; rw [Array.getElem?_eq_none hge] at h; cases h
theorem Blk.keep {g : Nat} {t : TypeId} {cs : Array Value} (h : Blk w g t cs) (ho : Only S w w') (hn : ¬ S g) : Blk w' g t cs := (ho.block g h.lt hn).trans h
theorem Blk.below {B g : Nat} {t : TypeId} {cs : Array Value} (h : Blk w g t cs) (hb : Below B w w') (hg : g < B) : Blk w' g t cs := (hb.block g hg).trans h
theorem Blk.alloc {g : Nat} {t : TypeId} {cs : Array Value} (h : Blk w g t cs) (o : Obj) : Blk (w.alloc o) g t cs := (Below.heap_alloc w o g h.lt).trans h
theorem Blk.far {g : Nat} {t : TypeId} {cs : Array Value} (h : Blk w g t cs) {p : Addr} (hp : g ≠ p.block) (u : Value) : Blk (w.setCell p u) g t cs := (Below.heap_setCell w p u g hp).trans h
theorem Blk.new (w : World) (t : TypeId) (cs : Array Value) : Blk (w.alloc (.cells cs t)) w.heap.size t cs := heapNew w _
theorem Blk.cell {g : Nat} {t : TypeId} {cs : Array Value} (h : Blk w g t cs) (i : Nat) : w.cell? ⟨g, i, none⟩ = cs[i]? := by
 unfold Blk at h; simp [World.cell?, h]
theorem Blk.free {g : Nat} {t : TypeId} {cs : Array Value} (h : Blk w g t cs) (i : Nat) : w.frozen? ⟨g, i, none⟩ = false := freeOf h
theorem Blk.set_ {g : Nat} {t : TypeId} {cs : Array Value} (h : Blk w g t cs) (i : Nat) (u : Value) : Blk (w.setCell ⟨g, i, none⟩ u) g t (cs.setIfInBounds i u) := heapSet u h
theorem own_keep {base : Nat} {e : TypeId} {size n : Nat} {v : Value} {xs : List Value} (h : w.ownsRow base e size v n xs) (ho : Only S w w') (hn : ∀ g, v.ownBlock = some g → ¬ S g) : w'.ownsRow base e size v n xs := by
 refine ⟨h.1, ?_⟩
 rcases h.2 with ⟨h1, h2⟩ | ⟨g, cap, cur, rfl, hb, hh, r⟩
 ·exact .inl ⟨h1, h2⟩
 ·have hg : g < w.heap.size := by
   rcases Nat.lt_or_ge g w.heap.size with h1 | h1
   ·exact h1
   ·rw [Array.getElem?_eq_none h1] at hh; cases hh
  exact .inr ⟨g, cap, cur, rfl, hb, (ho.block g hg (hn g rfl)).trans hh, r⟩
theorem Apped.only {base : Nat} {e : TypeId} {size n : Nat} {v v' : Value} {xs : List Value} (h : Apped w base e size v w' v' n xs) (hS : ∀ g, v.ownBlock = some g → S g) : Only S w w' := Only.of_grown h.grown hS
end
theorem rd_one (w : World) (u : Value) (T : TypeId) : Rd (w.alloc (.cells #[u] T)) (w.heap.size + 1) (some ⟨w.heap.size, 0, none⟩) [u] := rd_new w [u] T (0, 0)
def wrd (k : IntKind) (l : List Nat) : List Value := l.map fun (n : Nat) => Value.int k (n : Int)
theorem wrd_len (k : IntKind) (l : List Nat) : (wrd k l).length = l.length := by simp [wrd]
theorem wrd_at {k : IntKind} {l : List Nat} {i : Nat} (h : i < l.length) : (wrd k l)[i]? = some (.int k (l.getD i 0 : Nat)) := by
 simp [wrd, h, jA]
theorem wrd_app (k : IntKind) (l m : List Nat) : wrd k l ++ wrd k m = wrd k (l ++ m) := by simp [wrd]
theorem Rd.word {w : World} {B : Nat} {A : Option Addr} {k : IntKind} {l : List Nat} (h : Rd w B A (wrd k l)) {i : Nat} (hi : i < l.length) :
  ∃ ad, A = some ad ∧ ad.block < B ∧ w.cell? (ad.add i) = some (.int k (l.getD i 0 : Nat)) := by
 obtain ⟨ad, e, hb, hc⟩ := h (fun h0 => by have := wrd_len k l; rw [h0] at this; simp at this; omega)
 exact ⟨ad, e, hb, hc i _ (wrd_at hi)⟩
def OwnK (w : World) (base : Nat) (T : TypeId) (k : IntKind) (v : Value) (l : List Nat) : Prop := w.ownsRow base T 1 v l.length (wrd k l)
theorem OwnK.nil_ (w : World) (base : Nat) (T : TypeId) (k : IntKind) : OwnK w base T k (.slice none 0 0) [] := ⟨rfl, .inl ⟨rfl, rfl⟩⟩
theorem OwnK.rd {w : World} {base : Nat} {T : TypeId} {k : IntKind} {v : Value} {l : List Nat} (h : OwnK w base T k v l) : ∃ A cap, v = .slice A l.length cap ∧ l.length ≤ cap ∧ cap ≤ maxLen ∧ Rd w w.heap.size A (wrd k l) := own_rd h
theorem OwnK.snoc {w w' : World} {base : Nat} {T : TypeId} {k : IntKind} {v v' : Value} {l : List Nat} {c : Nat} (h : Apped w base T 1 v w' v' (l.length + 1) (wrd k l ++ [.int k (c : Int)])) : OwnK w' base T k v' (l ++ [c]) := by
 have := h.own
 unfold OwnK
 rw [jC, ← wrd_app]
 exact this
def vb (l : List Nat) : Array Value := (byt l).toArray
theorem vb_size (l : List Nat) : (vb l).size = l.length := by simp [vb, byt_len]
section
variable {P : Program}
theorem keyLits_bytes {T e : TypeId} {n D : Nat} (ht : P.underlying T = some (.array n e)) (he : P.underlying e = some (.int .u8)) (hc : P.cellsOf T = n) (h1 : P.cellsOf e = 1) (l : List Nat) (hl : l.length = n) (hs : ∀ c ∈ l, c < 256) :
  P.keyLits (D + 2) T (byt l) = some (l.map fun (c : Nat) => Lit.int .u8 (c : Int)) := by
 have hm : ∀ (is : List Nat), (∀ i ∈ is, i < l.length) → (is.mapM fun i => P.keyLits (D + 1) e (((byt l).drop (i * 1)).take 1)) = some (is.map fun i => [Lit.int .u8 (l.getD i 0 : Nat)]) := by
  intro is
  induction is with
  | nil => intro _; rfl
  | cons i is ih =>
   intro h
   have hi := h i (by simp)
   have hk : P.keyLits (D + 1) e (((byt l).drop (i * 1)).take 1) = some [Lit.int .u8 (l.getD i 0 : Nat)] := by
    rw [Nat.mul_one, List.drop_eq_getElem_cons (by rw [byt_len]; exact hi)]
    have hg : (byt l)[i]'(by rw [byt_len]; exact hi) = .int .u8 (l.getD i 0 : Nat) := by
     have := byt_at hi
     rw [jB (by rw [byt_len]; exact hi)] at this
     exact Option.some.inj this
    rw [hg]
    have hb := getD_lt hs i
    have hw : (Lit.int .u8 ((l.getD i 0 : Nat) : Int)).wf = true := WalkArith.wf_u8 ⟨by omega, by omega⟩
    simp only [List.take_succ_cons, List.take_zero, Program.keyLits, he]
    rw [if_pos (by first | exact hw | exact ⟨trivial, hw⟩)]
   rw [List.mapM_cons, hk, ih (fun j hj => h j (by simp [hj]))]
   rfl
 have hflat : ((List.range l.length).map fun i => [Lit.int .u8 ((l.getD i 0 : Nat) : Int)]).flatten = l.map fun (c : Nat) => Lit.int .u8 (c : Int) := by
  have : ∀ is : List Nat, (is.map fun i => [Lit.int .u8 ((l.getD i 0 : Nat) : Int)]).flatten = is.map fun i => Lit.int .u8 ((l.getD i 0 : Nat) : Int) := by
   intro is; induction is with
   | nil => rfl
   | cons i is ih => simp only [List.map_cons, List.flatten_cons, List.singleton_append, ih]
  rw [this]
  apply List.ext_getElem
  ·simp
  ·intro i h1 h2
   simp at h1
   simp [jA, h1]
 have hstep : P.keyLits (D + 2) T (byt l) = if (byt l).length = P.cellsOf T then ((List.range n).mapM fun i => P.keyLits (D + 1) e (((byt l).drop (i * P.cellsOf e)).take (P.cellsOf e))).map List.flatten else none := by
  conv => lhs; unfold Program.keyLits
  rw [ht]
 rw [hstep, hc, h1, if_pos (by rw [byt_len]; exact hl), ← hl, hm _ (fun i hi => List.mem_range.1 hi), Option.map_some, hflat]
theorem lits_inj {l m : List Nat} (h : (l.map fun (c : Nat) => Lit.int .u8 (c : Int)) = m.map fun (c : Nat) => Lit.int .u8 (c : Int)) : l = m := by
 have hinj : ∀ a b : Nat, Lit.int .u8 (a : Int) = Lit.int .u8 (b : Int) → a = b := fun a b h => by injection h with _ h; omega
 induction l generalizing m with
 | nil => cases m with
  | nil => rfl
  | cons => simp at h
 | cons a l ih => cases m with
  | nil => simp at h
  | cons b m =>
   simp only [List.map_cons, List.cons.injEq] at h
   rw [hinj _ _ h.1, ih h.2]
theorem run_equalIn_barr {T e : TypeId} {n : Nat} (ht : P.underlying T = some (.array n e)) (he : P.underlying e = some (.int .u8)) (hc : P.cellsOf T = n) (h1 : P.cellsOf e = 1)
  (l m : List Nat) (hl : l.length = n) (hm : m.length = n) (hs : ∀ c ∈ l, c < 256) (hs2 : ∀ c ∈ m, c < 256) (w : World) :
  (Op.equalIn 10000 T (.agg (vb l)) (.agg (vb m))).run P w = .ok (l == m) w := by
 have hk : P.keyTypeAt 2 T = true := by simp [Program.keyTypeAt, ht, he]
 have hf : ∀ k : List Nat, k.length = n → (Value.agg (vb k)).formed P T = true := fun k h => by simp [Value.formed, ht, hc, vb_size, h]
 obtain ⟨r, hr, hiff⟩ := run_equalIn_deep (P := P) 9998 2 T hk w 2 2 (.agg (vb l)) (.agg (vb m)) _ _ (hf l hl) (hf m hm)
  (by simpa [Value.cells, vb] using keyLits_bytes (D := 0) ht he hc h1 l hl hs) (by simpa [Value.cells, vb] using keyLits_bytes (D := 0) ht he hc h1 m hm hs2)
 rw [show 9998 + 2 = 10000 from rfl] at hr
 rw [hr]
 congr 1
 by_cases h : l = m
 ·subst h; rw [hiff.2 rfl]; simp
 ·have : r = false := by
   cases r with
   | true => exact absurd (lits_inj (hiff.1 rfl)) h
   | false => rfl
  rw [this]; simp [h]
end
theorem byteInfo : (Tryz.prog.info? 5).map (fun i => (i.zero, i.size, i.bytes)) = some (some (.int .u8 0), 1, 1) := by kernel_rfl
def Quietly (v : Value) (w : World) (e : Ending) (w' : World) : Prop := e = .returned v ∧ ∃ n, w' = w.drewN n
theorem take_succ_eq {l m : List Nat} {k : Nat} (h1 : k < l.length) (h2 : k < m.length) : l.take (k + 1) = m.take (k + 1) ↔ l.take k = m.take k ∧ l.getD k 0 = m.getD k 0 := by
 rw [List.take_succ_eq_append_getElem h1, List.take_succ_eq_append_getElem h2, jA, jA, jB h1, jB h2]
 constructor
 ·intro h
  have := List.append_inj h (by simp; omega)
  exact ⟨this.1, by simpa using this.2⟩
 ·rintro ⟨h, h'⟩
  simp at h'
  rw [h, h']
theorem same_c (B C : Nat) (A D : Option Addr) (ca cb : Nat) (l m : List Nat) (w : World) (hl : ∀ c ∈ l, c < 256) (hm : ∀ c ∈ m, c < 256) (hr : Rd w B A (byt l)) (hs : Rd w C D (byt m)) (h1 : l.length ≤ 1000000000) (_h2 : m.length ≤ 1000000000) :
  Calls Tryz.prog 31 #[.slice A l.length ca, .slice D m.length cb] w (Quietly (.bool (l == m)) w) := by
 have HL := Li hl
 have HM := Li hm
 have HR := Li hr
 have HS := Li hs
 clear hl hm hr hs
 by_cases hlen : l.length = m.length
 ·have HN := Li hlen
  rw [← hlen]
  have h3 : l.length ≤ m.length := by omega
  clear hlen _h2
  go_enter Tryz.func31, Tryz.ntmps31
  go_wp2
  go_loopw [5] (fun i wr => ∃ k q : Nat, k ≤ l.length ∧ i = .int .i64 k ∧ l.take k = m.take k ∧ wr = w.drewN q) (fun i _ => l.length - (intOf i).toNat)
  case atStart => exact ⟨0, 0, Nat.zero_le _, rfl, by simp, rfl⟩
  case round =>
   obtain ⟨k, q, hk, rfl, ht, rfl⟩ := hrel
   have HT := Li ht
   clear ht
   by_cases hlt : k < l.length
   ·obtain ⟨ad, rfl, hab, hca⟩ := HR.out.byte hlt
    obtain ⟨ad2, rfl, hab2, hcb⟩ := HS.out.byte (show k < m.length by omega)
    have HST := Li (take_succ_eq hlt (show k < m.length by omega))
    have hx := getD_lt HL.out k
    have hy := getD_lt HM.out k
    generalize l.getD k 0 = x at *
    generalize m.getD k 0 = y at *
    have hi1 : (k : Int) < (l.length : Int) := by omega
    by_cases heq : x = y
    ·subst heq
     go_wp2
     go_quiet (fail)
     go_wp2
     go_roundw
     case rel => exact ⟨k + 1, _, by omega, by go_num, HST.out.2 (by first | exact ⟨HT.out, rfl⟩ | exact ⟨HT.out, trivial⟩), rfl⟩
     case measure => simp [intOf]; omega
    ·have t1 : (((x : Nat) : Int) != (y : Int)) = true := by rw [bne_iff_ne]; omega
     have HE := Li heq
     clear heq
     go_wp2
     go_quiet (fail)
     go_wp2
     go_ret
     have hne : l ≠ m := fun h => by
      subst h
      have := HST.out.1 rfl
      exact HE.out this.2
     have e : (l == m) = false := by simpa using hne
     rw [e]
     exact ⟨rfl, _, World.drewN_drewN ..⟩
   ·obtain rfl : k = l.length := by omega
    go_wp2
    go_ret
    have e : l = m := by
     have := HT.out
     rw [List.take_length, HN.out, List.take_length] at this
     exact this
    have e2 : (l == m) = true := by simpa using e
    rw [e2]
    exact ⟨rfl, _, rfl⟩
 ·have hne : l ≠ m := fun h => hlen (by rw [h])
  have e : (l == m) = false := by simpa using hne
  rw [e]
  have t1 : (((l.length : Nat) : Int) != (m.length : Int)) = true := by rw [bne_iff_ne]; omega
  clear hlen hne e
  go_enter Tryz.func31, Tryz.ntmps31
  go_wp2
  go_ret
  exact ⟨rfl, 0, rfl⟩
theorem vb_set (l : List Nat) (i n : Nat) : (vb l).setIfInBounds i (.int .u8 (n : Int)) = vb (l.set i n) := by
 unfold vb byt
 rw [sI]
 congr 1
 rw [List.map_set]
theorem made_bytes (n : Nat) : madeCells #[.int .u8 0] n = vb (List.replicate n 0) := by
 apply Array.toList_inj.1
 rw [toList_madeCells_one]
 simp [vb, byt]
theorem run_make_bytes (n : Nat) (hn : n ≤ 1000000000) (w : World) :
  (Instr.makeSlice 23 (.int .i64 (n : Int)) (.int .i64 (n : Int))).run Tryz.prog w = .ok (.slice (some ⟨w.heap.size, 0, none⟩) n n) (w.alloc (.cells (vb (List.replicate n 0)) 5)) := by
 obtain ⟨i, hi, hz, h1, h2⟩ := info_parts byteInfo
 have hr := run_make (P := Tryz.prog) w 23 5 i (.int .u8 0) Tryz.underlying23 hi hz .i64 .i64 (n : Int) (n : Int) (by omega) (by omega) (by rw [h2]; omega) (by omega)
 rw [h1] at hr
 simp only [Int.toNat_natCast] at hr
 rw [← made_bytes]
 simpa [Value.cells] using hr
def lent (l : List Nat) : List Nat := l ++ List.replicate 8 165
def LentAt (w : World) (g : Nat) (l : List Nat) : Prop := Blk w g 5 (vb (lent l))
theorem rd_blk {w : World} {g : Nat} {T : TypeId} {cs : Array Value} (h : Blk w g T cs) (xs : List Value) (n : Nat) (hx : xs = cs.toList.take n) : Rd w (g + 1) (some ⟨g, 0, none⟩) xs := fun _ =>
 ⟨_, rfl, Nat.lt_succ_self _, fun j u hu => by
  have e1 : (Addr.add ⟨g, 0, none⟩ j) = ⟨g, j, none⟩ := by
   unfold Addr.add; split
   ·subst_vars; rfl
   ·simp
  rw [e1, h.cell]
  rw [hx] at hu
  have hj : j < n := by
   rcases Nat.lt_or_ge j n with h1 | h1
   ·exact h1
   ·rw [List.getElem?_eq_none (by rw [List.length_take]; omega)] at hu; cases hu
  rw [List.getElem?_take_of_lt hj] at hu
  simpa using hu⟩
theorem LentAt.rd {w : World} {g : Nat} {l : List Nat} (h : LentAt w g l) : Rd w (g + 1) (some ⟨g, 0, none⟩) (byt l) :=
 rd_blk h (byt l) l.length (by simp [vb, lent, byt])
theorem cell_lt {w : World} {a : Addr} {v : Value} (h : w.cell? a = some v) : a.block < w.heap.size := by
 rcases Nat.lt_or_ge a.block w.heap.size with h1 | h1
 ·exact h1
 ·simp [World.cell?, Array.getElem?_eq_none h1] at h
theorem Rd.ext {w w' : World} {B : Nat} {A : Option Addr} {xs : List Value} (h : Rd w B A xs) (hb : Below w.heap.size w w') : Rd w' B A xs := fun hn => by
 obtain ⟨ad, e, hab, hc⟩ := h hn
 exact ⟨ad, e, hab, fun j u hu => (hb.cell (cell_lt (hc j u hu))).trans (hc j u hu)⟩
theorem Rd.none_nil {w : World} {B : Nat} {xs : List Value} (h : Rd w B none xs) : xs = [] := by
 by_cases hn : xs = []
 ·exact hn
 ·obtain ⟨_, e, _⟩ := h hn; cases e
def Gives (l : List Nat) (w : World) (e : Ending) (w' : World) : Prop := ∃ v, e = .returned v ∧ OwnB w' w.heap.size v l ∧ Below w.heap.size w w'
def form : Nat → Nat → List Nat
 | _, 0 => []
 | n, w + 1 => n % 256 :: form (n / 256) w
theorem form_len (n w : Nat) : (form n w).length = w := by
 induction w generalizing n with
 | zero => rfl
 | succ w ih => simp [form, ih]
theorem form_lt (n w : Nat) : ∀ c ∈ form n w, c < 256 := by
 induction w generalizing n with
 | zero => simp [form]
 | succ w ih =>
  intro c hc
  rcases List.mem_cons.1 hc with rfl | hc
  ·exact Nat.mod_lt _ (by decide)
  ·exact ih _ c hc
theorem form_succ (n w : Nat) : form n (w + 1) = form n w ++ [n / 256 ^ w % 256] := by
 induction w generalizing n with
 | zero => simp [form]
 | succ w ih =>
  rw [form, ih (n / 256), form, List.cons_append, Nat.div_div_eq_div_mul, Nat.pow_succ']
def number : List Nat → Nat
 | [] => 0
 | c :: l => number l * 256 + c
theorem number_lt : ∀ l : List Nat, (∀ c ∈ l, c < 256) → number l < 256 ^ l.length
 | [], _ => by simp [number]
 | c :: l, h => by
  have h1 := number_lt l (fun c hc => h c (by simp [hc]))
  have h2 := h c (by simp)
  rw [number, List.length_cons, Nat.pow_succ]
  omega
theorem form_number : ∀ l : List Nat, (∀ c ∈ l, c < 256) → form (number l) l.length = l
 | [], _ => rfl
 | c :: l, h => by
  have h2 := h c (by simp)
  rw [List.length_cons, form, number, show (number l * 256 + c) % 256 = c by omega, show (number l * 256 + c) / 256 = number l by omega, form_number l (fun c hc => h c (by simp [hc]))]
theorem number_form (n w : Nat) (h : n < 256 ^ w) : number (form n w) = n := by
 induction w generalizing n with
 | zero => simp at h; subst h; rfl
 | succ w ih =>
  rw [form, number, ih (n / 256) (by rw [Nat.pow_succ] at h; omega)]
  omega
theorem number_drop {l : List Nat} {j : Nat} (hj : j < l.length) : number (l.drop j) = number (l.drop (j + 1)) * 256 + l.getD j 0 := by
 rw [List.drop_eq_getElem_cons hj, jA, jB hj]; rfl
theorem OwnB.open_ {w : World} {base : Nat} {v : Value} {l : List Nat} (h : OwnB w base v l) (hne : l ≠ []) : ∃ g cap rest, v = .slice (some ⟨g, 0, none⟩) l.length cap ∧ base ≤ g ∧ Blk w g 5 (byt l ++ rest).toArray ∧ l.length ≤ cap ∧ cap ≤ maxLen ∧ rest.length + l.length = cap := by
 rcases h.2 with ⟨_, h0⟩ | ⟨g, cap, cur, rfl, hb, hh, hn, hm, hc, ht⟩
 ·exact absurd (List.eq_nil_of_length_eq_zero h0) hne
 ·refine ⟨g, cap, cur.toList.drop l.length, rfl, hb, ?_, hn, hm, ?_⟩
  ·rw [Nat.mul_one] at ht
   unfold Blk
   rw [hh, ← ht, List.take_append_drop]
  ·rw [List.length_drop, Array.length_toList, hc]; omega
theorem OwnB.next {w w' : World} {base : Nat} {v : Value} {l : List Nat} (h : OwnB w base v l) (hb : Below w.heap.size w w') : OwnB w' base v l := own_keep (S := fun _ => False) h (Only.of_below hb) (fun _ _ h => h)
theorem vb_at (l : List Nat) (i : Nat) (h : i < l.length) : (vb l)[i]? = some (.int .u8 (l.getD i 0 : Nat)) := by
 simp [vb, byt, jA, h]
theorem vb_one (l : List Nat) : (vb l).all (·.oneCell') = true := by
 simp [vb, byt, Value.oneCell']
theorem own_base_le {w : World} {base base' : Nat} {e : TypeId} {size n : Nat} {v : Value} {xs : List Value} (h : w.ownsRow base e size v n xs) (hb : base' ≤ base) : w.ownsRow base' e size v n xs :=
 ⟨h.1, h.2.elim Or.inl (fun ⟨g, cap, cur, hv, hg, r⟩ => Or.inr ⟨g, cap, cur, hv, Nat.le_trans hb hg, r⟩)⟩
theorem run_one (w : World) (c : Nat) {o : Oper} {a : Act} (x : Operand) (ho : o.op = .buildSlice 23 1 #[(0, x)]) (hx : a.eval x = .int .u8 (c : Nat)) :
  (execOp a.eval o).run Tryz.prog w = .ok (.value (.slice (some ⟨w.heap.size, 0, none⟩) 1 1)) (w.alloc (.cells (byt [c]).toArray 5)) := by
 obtain ⟨i0, hi, hz0, hz1, hz2⟩ := info_parts byteInfo
 have e1 : (#[(0, x)].map fun (p : Nat × Operand) => (p.1, a.eval p.2)).toList = (([Value.int .u8 (c : Nat)].zipIdx 0).map fun x => (x.2, x.1)) := by
  simp [hx]
 have h1 := run_buildSlice (P := Tryz.prog) w 23 5 1 (#[(0, x)].map fun (p : Nat × Operand) => (p.1, a.eval p.2)) (byt [c]).toArray i0 _ Tryz.underlying23 hi hz0 (by rw [hz1]; decide) (by rw [hz1]; decide) (by
  rw [hz1]
  refine (congrArg _ e1).trans ?_
  exact (Great.fill_flat [Value.int .u8 (c : Nat)] _ (fun v hv => by rw [List.mem_singleton.1 hv]; rfl) (by simp)))
 unfold execOp
 simp only [ho, Sem.run_bind, h1, Result.andThen_ok]
 rfl
theorem below_row {n g : Nat} {w W : World} (h : Below n w W) (hn : n ≤ g) (cs : Array Value) : Below n w (W.setRow g cs) :=
 h.trans ⟨rfl, rfl, rfl, by simp [World.setRow], fun i hi => setRow_other _ _ i _ (by omega)⟩
theorem rangeAt_blk {w : World} {g : Nat} {T : TypeId} {cs : Array Value} (h : Blk w g T cs) : w.rangeAt g 0 cs.toList := fun i u hu => by
 rw [Nat.zero_add, h.cell i]
 simpa using hu
def tok : Value := .bool true
def isTok (v : Value) : Bool := match v with | .bool true => true | _ => false
theorem isTok_eq {v : Value} (h : isTok v = true) : v = tok := by
 unfold isTok at h; split at h
 ·rfl
 ·cases h
section
variable {P : Program} {ops : Array Oper} {md : Region.Mode} {Z : World} {ls : List Tmp} {V : Tmp → Value → World → Prop}
def SimAt (ls : List Tmp) (V : Tmp → Value → World → Prop) (b a : Act) (w : World) (k : Tmp) : Prop :=
 (ls.contains k = true → b.eval (.tmp k) = tok → V k (a.eval (.tmp k)) w) ∧ (ls.contains k = false → a.eval (.tmp k) = b.eval (.tmp k))
structure Sim (ls : List Tmp) (V : Tmp → Value → World → Prop) (b a : Act) (w : World) : Prop where
 de : a.defers = b.defers
 sz : a.tmps.size = b.tmps.size
 at_ : ∀ k, SimAt ls V b a w k
def LoudUpon (P : Program) (ls : List Tmp) (V : Tmp → Value → World → Prop) (dst : Option Tmp) (w : World) (v : Value) : Result Next → Prop
 | .ok (.value u) w' => (w' = w ∧ u = v ∧ ∀ d, dst = some d → ls.contains d = false) ∨ (Below w.heap.size w w' ∧ ∀ d, dst = some d → ls.contains d = true ∧ V d u w')
 | .ok (.enter f args) w' => w' = w ∧ Calls P f args w (fun e w'' => ∃ u, e = .returned u ∧ Below w.heap.size w w'' ∧ ∀ d, dst = some d → (ls.contains d = true → V d u w'') ∧ (ls.contains d = false → u = v))
 | _ => False
def LQ (P : Program) (ops : Array Oper) (Z : World) (ls : List Tmp) (V : Tmp → Value → World → Prop) (o : Oper) (b : Act) (v : Value) : Prop :=
 ∀ a w, Below Z.heap.size Z w → (∀ k ∈ o.looksAt ops, SimAt ls V b a w k) → LoudUpon P ls V o.dst w v ((execOp a.eval o).run P w)
theorem LQ.put {o : Oper} {b : Act} {v u : Value} {dst : Option Tmp} (h : ∀ d, dst = some d → d ∉ o.looksAt ops) (hq : LQ P ops Z ls V o b v) : LQ P ops Z ls V o (b.put dst u) v := fun a w hC hs =>
 hq a w hC fun k hk => by
  have := hs k hk
  unfold SimAt at *
  rw [Act.eval_put (a := b) (dst := dst) (v := u) (x := .tmp k) (fun d hd he => h d hd (by injection he with he; rw [← he]; exact hk))] at this
  exact this
theorem LQ.unput {o : Oper} {b : Act} {v u : Value} {dst : Option Tmp} (h : ∀ d, dst = some d → d ∉ o.looksAt ops) (hq : LQ P ops Z ls V o (b.put dst u) v) : LQ P ops Z ls V o b v := fun a w hC hs =>
 hq a w hC fun k hk => by
  have := hs k hk
  unfold SimAt at *
  rw [Act.eval_put (a := b) (dst := dst) (v := u) (x := .tmp k) (fun d hd he => h d hd (by injection he with he; rw [← he]; exact hk))]
  exact this
def wpLoud (P : Program) (ops : Array Oper) (Z : World) (ls : List Tmp) (V : Tmp → Value → World → Prop) (Q : Act → Prop) : List Oper → Act → Prop
 | [], b => Q b
 | o :: rest, b => if Region.wanted o (yielded ops b.tmps) then ∃ v, LQ P ops Z ls V o b v ∧ wpLoud P ops Z ls V Q rest (b.put o.dst v) else wpLoud P ops Z ls V Q rest (b.put o.dst undef)
def lOp (P : Program) (ops : Array Oper) (Z : World) (ls : List Tmp) (V : Tmp → Value → World → Prop) (i : Nat) (K : Act → Prop) (b : Act) : Prop :=
 match ops[i]? with
 | none => K b
 | some o => if Region.wanted o (yielded ops b.tmps) then ∃ v, LQ P ops Z ls V o b v ∧ K (b.put o.dst v) else K (b.put o.dst undef)
theorem lOp_mono {i : Nat} {b : Act} {K K' : Act → Prop} (h : ∀ b, K b → K' b) (hh : lOp P ops Z ls V i K b) : lOp P ops Z ls V i K' b := by
 unfold lOp at *
 split
 ·exact h _ (by simpa [*] using hh)
 ·rename_i o ho
  simp only [ho] at hh
  split
  ·rename_i hw; simp only [hw, if_true] at hh; obtain ⟨v, h1, h2⟩ := hh; exact ⟨v, h1, h _ h2⟩
  ·rename_i hw; simp only [hw] at hh; exact h _ hh
def wpAnyL (P : Program) (md : Region.Mode) (ops : Array Oper) (Z : World) (ls : List Tmp) (V : Tmp → Value → World → Prop) (Q : Act → Prop) : Nat → Array Bool → Act → Prop
 | 0, listed, b => Region.ready md ops listed = [] ∧ Q b
 | fuel + 1, listed, b =>
  (Region.ready md ops listed = [] → Q b) ∧
  ∀ i ∈ Region.ready md ops listed, lOp P ops Z ls V i (wpAnyL P md ops Z ls V Q fuel (listed.setIfInBounds i true)) b
theorem eval_put_at (a : Act) (d : Tmp) (v : Value) (k : Tmp) : (a.put (some d) v).eval (.tmp k) = if k = d ∧ d < a.tmps.size then v else a.eval (.tmp k) := by
 by_cases h : k = d
 ·subst h
  by_cases h2 : k < a.tmps.size
  ·rw [if_pos ⟨rfl, h2⟩]
   simp [Act.put, Act.eval, h2]
  ·rw [if_neg (fun h3 => h2 h3.2)]
   simp [Act.put, Act.eval, h2]
 ·rw [if_neg (fun h3 => h h3.1)]
  exact Act.eval_put fun e he hx => h (by injection he with he; injection hx with hx; rw [hx, he])
theorem Sim.put {b a : Act} {w : World} (h : Sim ls V b a w) (dst : Option Tmp) (v u : Value) (hd : ∀ d, dst = some d → (ls.contains d = true → v = tok → V d u w) ∧ (ls.contains d = false → u = v)) : Sim ls V (b.put dst v) (a.put dst u) w := by
 cases dst with
 | none => exact h
 | some d =>
  obtain ⟨h1, h2⟩ := hd d rfl
  refine ⟨h.de, by simp [Act.put, h.sz], fun k => ?_⟩
  obtain ⟨s1, s2⟩ := h.at_ k
  unfold SimAt
  rw [eval_put_at, eval_put_at, h.sz]
  by_cases hk : k = d ∧ d < b.tmps.size
  ·rw [if_pos hk, if_pos hk]
   obtain ⟨rfl, _⟩ := hk
   exact ⟨h1, h2⟩
  ·rw [if_neg hk, if_neg hk]
   exact ⟨s1, s2⟩
theorem Sim.next {b a : Act} {w w' : World} (hV : ∀ k u w w', V k u w → Below w.heap.size w w' → V k u w') (h : Sim ls V b a w) (hb : Below w.heap.size w w') : Sim ls V b a w' :=
 ⟨h.de, h.sz, fun k => ⟨fun h1 h2 => hV k _ _ _ ((h.at_ k).1 h1 h2) hb, (h.at_ k).2⟩⟩
def guardsB (ops : Array Oper) (ls : List Tmp) : Bool := ops.all fun o => match o.guard with
 | none => true
 | some (g, _) => match (ops[g]?).bind (·.dst) with
  | some d => !ls.contains d
  | none => true
theorem wanted_sim {b a : Act} {w : World} (h : Sim ls V b a w) (hG : guardsB ops ls = true) {o : Oper} {i : Nat} (ho : ops[i]? = some o) : Region.wanted o (yielded ops a.tmps) = Region.wanted o (yielded ops b.tmps) := by
 unfold Region.wanted
 cases hg : o.guard with
 | none => rfl
 | some gw =>
  obtain ⟨g, want⟩ := gw
  have hi : i < ops.size := by
   rcases Nat.lt_or_ge i ops.size with h1 | h1
   ·exact h1
   ·rw [Array.getElem?_eq_none h1] at ho; cases ho
  have he : ops[i] = o := by rw [Array.getElem?_eq_getElem hi] at ho; injection ho
  have h1 := (Array.all_eq_true.1 hG) i hi
  rw [he, hg] at h1
  have hy : yielded ops a.tmps g = yielded ops b.tmps g := by
   unfold yielded
   cases ht : (ops[g]?).bind (·.dst) with
   | none => rfl
   | some t =>
    simp only [ht] at h1
    have h2 := (h.at_ t).2 (by simpa using h1)
    have h3 : a.tmps[t]? = b.tmps[t]? := by
     rcases Nat.lt_or_ge t b.tmps.size with h4 | h4
     ·have h5 : t < a.tmps.size := by rw [h.sz]; exact h4
      simp only [Act.eval] at h2
      rw [Array.getElem?_eq_getElem h4, Array.getElem?_eq_getElem h5]
      simpa [h4, h5] using h2
     ·rw [Array.getElem?_eq_none h4, Array.getElem?_eq_none (by rw [h.sz]; exact h4)]
    simp [h3]
  simp only [hy]
theorem loudStep (hV : ∀ k u w w', V k u w → Below w.heap.size w w' → V k u w') (hG : guardsB ops ls = true) {Q' : Exit → Act → World → Prop} {K : Act → Prop} {K' : Act → World → Prop} (ih : ∀ b a w, Below Z.heap.size Z w → Sim ls V b a w → K b → K' a w)
  {i : Nat} {b a : Act} {w : World} (hC : Below Z.heap.size Z w) (hs : Sim ls V b a w) (h1 : lOp P ops Z ls V i K b) : wpOp P ops Q' i K' a w := by
 unfold lOp at h1
 unfold wpOp
 cases ho : ops[i]? with
 | none => simp only [ho] at h1 ⊢; exact ih _ _ _ hC hs h1
 | some o =>
  simp only [ho] at h1 ⊢
  rw [wanted_sim hs hG ho]
  split
  ·rename_i hw
   simp only [hw, if_true] at h1
   obtain ⟨v, hq, hK⟩ := h1
   refine .inl ?_
   have h2 := hq a w hC (fun k _ => hs.at_ k)
   unfold Oper.wp
   generalize (execOp a.eval o).run P w = r at *
   cases r with
   | ok n w' =>
    cases n <;> simp only [LoudUpon] at h2 <;> simp only [Oper.upon]
    case value u =>
     rcases h2 with ⟨rfl, rfl, h3⟩ | ⟨hb, h3⟩
     ·exact ih _ _ _ hC (hs.put _ _ _ fun d hd => ⟨fun h4 => (by rw [h3 d hd] at h4; cases h4), fun _ => rfl⟩) hK
     ·exact ih _ _ _ (hC.trans (hb.mono hC.size)) ((hs.next hV hb).put _ _ _ fun d hd => ⟨fun _ _ => (h3 d hd).2, fun h4 => (by rw [(h3 d hd).1] at h4; cases h4)⟩) hK
    case enter f args =>
     obtain ⟨rfl, hc⟩ := h2
     refine hc.mono ?_
     rintro e w'' ⟨u, rfl, hb, hd⟩
     exact ih _ _ _ (hC.trans (hb.mono hC.size)) ((hs.next hV hb).put _ _ _ fun d h3 => ⟨fun h4 _ => (hd d h3).1 h4, (hd d h3).2⟩) hK
   | halt x w' => simp only [LoudUpon] at h2
  ·rename_i hw
   simp only [hw] at h1
   exact ih _ _ _ hC (hs.put _ _ _ fun d hd => ⟨fun _ h4 => (by cases h4), fun _ => rfl⟩) h1
theorem wpAny_of_loud (hV : ∀ k u w w', V k u w → Below w.heap.size w w' → V k u w') (hG : guardsB ops ls = true) {Q : Act → Prop} {Q' : Exit → Act → World → Prop} (hQ : ∀ b a w, Below Z.heap.size Z w → Sim ls V b a w → Q b → Q' .normal a w) :
  ∀ (fuel : Nat) (listed : Array Bool) (b a : Act) (w : World), Below Z.heap.size Z w → Sim ls V b a w → wpAnyL P md ops Z ls V Q fuel listed b → wpAny P md ops Q' fuel listed a w
 | 0, _, _, _, _, hC, hs, h => ⟨h.1, hQ _ _ _ hC hs h.2⟩
 | fuel + 1, listed, b, a, w, hC, hs, h => ⟨fun h0 => hQ _ _ _ hC hs (h.1 h0), fun i hi => loudStep hV hG (fun b a w => wpAny_of_loud hV hG hQ fuel _ b a w) hC hs (h.2 i hi)⟩
def YieldsL (P : Program) (ops : Array Oper) (Z : World) (ls : List Tmp) (V : Tmp → Value → World → Prop) (o : Oper) (v : Value) (b : Act) : Prop :=
 (Region.wanted o (yielded ops b.tmps) = true ∧ LQ P ops Z ls V o b v) ∨ (Region.wanted o (yielded ops b.tmps) = false ∧ v = undef)
theorem YieldsL.lOp {i : Nat} {o : Oper} {v : Value} {b : Act} (hi : ops[i]? = some o) (hy : YieldsL P ops Z ls V o v b) {K : Act → Prop} (h : K (b.put o.dst v)) : lOp P ops Z ls V i K b := by
 unfold Go.Proofs.YtfnhmnbcponkfaaGreatDoor.lOp
 simp only [hi]
 rcases hy with ⟨hw, hv⟩ | ⟨hw, rfl⟩
 ·simp only [hw, if_true]; exact ⟨v, hv, h⟩
 ·simp only [hw, Bool.false_eq_true, if_false]; exact h
theorem yieldsL_of {i : Nat} {o : Oper} {b : Act} {K : Act → Prop} (hi : ops[i]? = some o) (h : lOp P ops Z ls V i K b) : ∃ v, YieldsL P ops Z ls V o v b ∧ K (b.put o.dst v) := by
 unfold lOp at h
 simp only [hi] at h
 by_cases hw : Region.wanted o (yielded ops b.tmps) = true
 ·simp only [hw, if_true] at h
  obtain ⟨v, h1, h2⟩ := h
  exact ⟨v, .inl ⟨hw, h1⟩, h2⟩
 ·simp only [hw] at h
  exact ⟨undef, .inr ⟨by simpa using hw, rfl⟩, h⟩
theorem lOp_put {j : Nat} {oi oj : Oper} {v : Value} (hj : ops[j]? = some oj) (hap : oi.apart ops oj = true) {K : Act → Prop} {b : Act}
  (hy : YieldsL P ops Z ls V oi v b) (h : lOp P ops Z ls V j K (b.put oi.dst v)) : lOp P ops Z ls V j (fun b' => YieldsL P ops Z ls V oi v b' ∧ K (b'.put oi.dst v)) b := by
 obtain ⟨h1, h2, h3⟩ := Oper.apart_spec hap
 have keep : ∀ (b : Act), YieldsL P ops Z ls V oi v b → ∀ u, YieldsL P ops Z ls V oi v (b.put oj.dst u) := fun b hy u => by
  unfold YieldsL at *
  rw [wanted_put oi b oj.dst u h3]
  exact hy.imp (fun h => ⟨h.1, h.2.put h3⟩) id
 unfold lOp at *
 simp only [hj] at *
 rw [wanted_put oj b oi.dst v h1] at h
 split
 ·rename_i hw
  simp only [hw, if_true] at h
  obtain ⟨u, hu, hn⟩ := h
  exact ⟨u, hu.unput h1, keep b hy u, by rw [← Act.put_comm b v u h2]; exact hn⟩
 ·rename_i hw
  simp only [hw] at h
  exact ⟨keep b hy _, by rw [← Act.put_comm b v undef h2]; exact h⟩
theorem wpAnyL_first {Q : Act → Prop} {i : Nat} {oi : Oper} {v : Value} (hi : ops[i]? = some oi) :
  ∀ (fuel : Nat) (listed : Array Bool) (b : Act),
   (∀ j oj, ops[j]? = some oj → j ≠ i → listed.getD j true = false → (∀ e ∈ oj.after, Region.binds md e = true → e.on ≠ i) → oi.apart ops oj = true) →
   i ∈ Region.ready md ops listed → YieldsL P ops Z ls V oi v b →
   wpAnyL P md ops Z ls V Q fuel (listed.setIfInBounds i true) (b.put oi.dst v) → wpAnyL P md ops Z ls V Q (fuel + 1) listed b := by
 intro fuel
 induction fuel with
 | zero =>
  intro listed b _ hr hy H
  refine ⟨fun h => (by rw [h] at hr; cases hr), fun j hj => ?_⟩
  by_cases hji : j = i
  ·subst hji; exact hy.lOp hi H
  ·have := ready_mono hj hji
   rw [H.1] at this
   cases this
 | succ fuel ih =>
  intro listed b hfree hr hy H
  refine ⟨fun h => (by rw [h] at hr; cases hr), fun j hj => ?_⟩
  by_cases hji : j = i
  ·subst hji; exact hy.lOp hi H
  ·have h1 := H.2 j (ready_mono hj hji)
   obtain ⟨hjun, oj, hoj, hall⟩ := mem_ready.1 hj
   have hnot : ∀ e ∈ oj.after, Region.binds md e = true → e.on ≠ i := fun e he hb heq => by
    have h1 := hall e he hb
    have h0 := (mem_ready.1 hr).1
    rw [heq] at h1
    rcases Nat.lt_or_ge i listed.size with h' | h'
    ·simp [h'] at h0 h1; rw [h0] at h1; cases h1
    ·simp [Array.getElem?_eq_none h'] at h1
   have h2 := lOp_put hoj (hfree j oj hoj hji hjun hnot) hy h1
   have hfree' : ∀ k ok, ops[k]? = some ok → k ≠ i → (listed.setIfInBounds j true).getD k true = false →
     (∀ e ∈ ok.after, Region.binds md e = true → e.on ≠ i) → oi.apart ops ok = true := fun k ok hk hki hun hno => by
    refine hfree k ok hk hki ?_ hno
    by_cases hjk : j = k
    ·subst hjk; exact hjun
    ·rw [getD_set_ne true hjk] at hun; exact hun
   refine lOp_mono (fun b' h3 => ih (listed.setIfInBounds j true) b' hfree' (ready_mono hr (Ne.symm hji)) h3.1 ?_) h2
   rw [Array.setIfInBounds_comm _ _ hji]
   exact h3.2
theorem wpAnyL_lex {Q : Act → Prop} : ∀ (l : List Oper) (k : Nat) (listed : Array Bool) (b : Act), (∀ j, l[j]? = ops[k + j]?) →
  Region.lexFrom md ops l.length k listed = true → wpLoud P ops Z ls V Q l b → wpAnyL P md ops Z ls V Q l.length listed b
 | [], _, _, _, _, hB, h => ⟨by simpa [Region.lexFrom] using hB, h⟩
 | o :: l, k, listed, b, hl, hB, h => by
  have h0 : ops[k]? = some o := by simpa using (hl 0).symm
  simp only [List.length_cons, Region.lexFrom, Bool.and_eq_true] at hB
  obtain ⟨⟨hr, hf⟩, hB'⟩ := hB
  have hst : lOp P ops Z ls V k (wpLoud P ops Z ls V Q l) b := by unfold lOp; simp only [h0]; exact h
  obtain ⟨v, hy, hK⟩ := yieldsL_of h0 hst
  exact wpAnyL_first h0 l.length listed b (Region.free_spec h0 hf) (by simpa using hr) hy
   (wpAnyL_lex l (k + 1) _ _ (fun j => by have := hl (j + 1); simpa [Nat.add_assoc, Nat.add_comm 1 j] using this) hB' hK)
def idleB (a : Act) (ls : List Tmp) : Bool := ls.all fun k => !isTok (a.eval (.tmp k))
theorem idle_sim {a : Act} {w : World} (hI : idleB a ls = true) : Sim ls V a a w := by
 refine ⟨rfl, rfl, fun k => ⟨fun h1 h2 => ?_, fun _ => rfl⟩⟩
 have h3 := List.all_eq_true.1 hI k (by simpa using h1)
 rw [h2] at h3
 cases h3
theorem wp_region_loud (Z : World) (ls : List Tmp) (V : Tmp → Value → World → Prop) {id : Nat} {Q : Exit → Act → World → Prop} {a : Act} {w : World} {l : List Oper} (hm : P.follows .mixedOrders = true) (hB : Region.lexB .any l.toArray = true) (hG : guardsB l.toArray ls = true) (hI : idleB a ls = true)
  (hV : ∀ k u w w', V k u w → Below w.heap.size w w' → V k u w') (hC : Below Z.heap.size Z w.drew)
  (h : wpLoud P l.toArray Z ls V (fun b => ∀ a' w', Below Z.heap.size Z w' → Sim ls V b a' w' → Q .normal a' w') l a) : (Code.region id l.toArray true).wp P Q a w := by
 simp only [Region.lexB, Bool.and_eq_true] at hB
 refine wp_region_any hm (wpAny_of_loud (Q := fun b => ∀ a' w', Below Z.heap.size Z w' → Sim ls V b a' w' → Q .normal a' w') hV hG (fun b a w h1 h2 h3 => h3 a w h1 h2) _ _ a a _ hC (idle_sim hI) ?_)
 ·have := wpAnyL_lex (P := P) (Z := Z) (ls := ls) (V := V) (md := .any) l 0 (Array.replicate l.toArray.size false) a (by simp) (by simpa using hB.2) h
  simpa using this
def wpAnyLT (P : Program) (md : Region.Mode) (ops : Array Oper) (Z : World) (ls : List Tmp) (V : Tmp → Value → World → Prop) (n : Nat) (L : Array Bool → Act → Prop) : Nat → Array Bool → Act → Prop
 | 0, listed, b => L listed b
 | f + 1, listed, b => Region.ready md ops listed ≠ [] ∧ ∀ i ∈ Region.ready md ops listed, i < n ∧ lOp P ops Z ls V i (wpAnyLT P md ops Z ls V n L f (listed.setIfInBounds i true)) b
theorem wpAny_of_loudHead {n g : Nat} (hV : ∀ k u w w', V k u w → Below w.heap.size w w' → V k u w') (hG : guardsB ops ls = true) {L : Array Bool → Act → Prop} {Q' : Exit → Act → World → Prop} (hL : ∀ listed b a w, Below Z.heap.size Z w → Sim ls V b a w → L listed b → wpAny P md ops Q' g listed a w) :
  ∀ (f : Nat) (listed : Array Bool) (b a : Act) (w : World), Below Z.heap.size Z w → Sim ls V b a w → wpAnyLT P md ops Z ls V n L f listed b → wpAny P md ops Q' (f + g) listed a w
 | 0, listed, b, a, w, hC, hs, h => by rw [Nat.zero_add]; exact hL _ _ _ _ hC hs h
 | f + 1, listed, b, a, w, hC, hs, h => by
  rw [show f + 1 + g = (f + g) + 1 by omega]
  exact ⟨fun h0 => absurd h0 h.1, fun i hi => loudStep hV hG (fun b a w => wpAny_of_loudHead hV hG hL f _ b a w) hC hs (h.2 i hi).2⟩
theorem wpAnyLT_first {n i : Nat} {oi : Oper} {v : Value} {L : Array Bool → Act → Prop} (hi : ops[i]? = some oi)
  (hs : Region.sinkB md ops n = true) (hc : Region.chainB md ops n = true) (hn : n < ops.size) (hin : i < n)
  (hdone : ∀ listed b, L listed b → ∀ j ∈ Region.ready md ops listed, n ≤ j) :
  ∀ (f : Nat) (listed : Array Bool) (b : Act), HeadInv md ops n listed →
   (∀ j oj, ops[j]? = some oj → j ≠ i → listed.getD j true = false → (∀ e ∈ oj.after, Region.binds md e = true → e.on ≠ i) → oi.apart ops oj = true) →
   i ∈ Region.ready md ops listed → YieldsL P ops Z ls V oi v b →
   wpAnyLT P md ops Z ls V n L f (listed.setIfInBounds i true) (b.put oi.dst v) → wpAnyLT P md ops Z ls V n L (f + 1) listed b := by
 intro f
 induction f with
 | zero =>
  intro listed b inv _ hr hy H
  have hun := (mem_ready.1 hr).1
  refine ⟨fun h => (by rw [h] at hr; cases hr), fun j hj => ?_⟩
  have hjn : j < n := by
   rcases Nat.lt_or_ge j n with h | h
   ·exact h
   ·exact absurd hj (tail_waits hs hc hn inv _ i rfl hin hun j h)
  refine ⟨hjn, ?_⟩
  by_cases hji : j = i
  ·subst hji; exact hy.lOp hi H
  ·have := hdone _ _ H j (ready_mono hj hji)
   omega
 | succ f ih =>
  intro listed b inv hfree hr hy H
  have hun := (mem_ready.1 hr).1
  refine ⟨fun h => (by rw [h] at hr; cases hr), fun j hj => ?_⟩
  have hjn : j < n := by
   rcases Nat.lt_or_ge j n with h | h
   ·exact h
   ·exact absurd hj (tail_waits hs hc hn inv _ i rfl hin hun j h)
  refine ⟨hjn, ?_⟩
  by_cases hji : j = i
  ·subst hji; exact hy.lOp hi H
  ·have h1 := (H.2 j (ready_mono hj hji)).2
   obtain ⟨hjun, oj, hoj, hall⟩ := mem_ready.1 hj
   have hnot : ∀ e ∈ oj.after, Region.binds md e = true → e.on ≠ i := fun e he hb heq => by
    have h1 := hall e he hb
    rw [heq, getD_both hun] at h1
    cases h1
   have h2 := lOp_put hoj (hfree j oj hoj hji hjun hnot) hy h1
   have hfree' : ∀ k ok, ops[k]? = some ok → k ≠ i → (listed.setIfInBounds j true).getD k true = false →
     (∀ e ∈ ok.after, Region.binds md e = true → e.on ≠ i) → oi.apart ops ok = true := fun k ok hk hki hun hno => by
    refine hfree k ok hk hki ?_ hno
    by_cases hjk : j = k
    ·subst hjk; exact hjun
    ·rw [getD_set_ne true hjk] at hun; exact hun
   refine lOp_mono (fun b' h3 => ih (listed.setIfInBounds j true) b' (inv.set hj hjn) hfree' (ready_mono hr (Ne.symm hji)) h3.1 ?_) h2
   rw [Array.setIfInBounds_comm _ _ hji]
   exact h3.2
theorem wpAnyLT_lex {n g : Nat} {Lq : Act → Prop} (hs : Region.sinkB md ops n = true) (hc : Region.chainB md ops n = true) (hn : n < ops.size) :
  ∀ (l : List Oper) (k : Nat) (listed : Array Bool) (b : Act), (∀ j, j < l.length → l[j]? = ops[k + j]?) → k + l.length = n → HeadInv md ops n listed →
  Region.lexHead md ops g l.length k listed = true → wpLoud P ops Z ls V Lq l b →
  wpAnyLT P md ops Z ls V n (fun listed' b' => Region.seqB md ops g n listed' = true ∧ Lq b') l.length listed b
 | [], k, listed, b, _, hk, _, hB, h => by
  have : k = n := by simpa using hk
  subst this
  exact ⟨by simpa [Region.lexHead] using hB, h⟩
 | o :: l, k, listed, b, hl, hk, inv, hB, h => by
  have h0 : ops[k]? = some o := by simpa using (hl 0 (by simp)).symm
  simp only [List.length_cons, Region.lexHead, Bool.and_eq_true] at hB
  obtain ⟨⟨hr, hf⟩, hB'⟩ := hB
  have hkn : k < n := by simp only [List.length_cons] at hk; omega
  have hr' : k ∈ Region.ready md ops listed := by simpa using hr
  have hst : lOp P ops Z ls V k (wpLoud P ops Z ls V Lq l) b := by unfold lOp; simp only [h0]; exact h
  obtain ⟨v, hy, hK⟩ := yieldsL_of h0 hst
  exact wpAnyLT_first h0 hs hc hn hkn (fun listed' a' hL => seqB_ready hL.1) l.length listed b inv (Region.free_spec h0 hf) hr' hy
   (wpAnyLT_lex hs hc hn l (k + 1) _ _ (fun j hj => by have := hl (j + 1) (by simp; omega); simpa [Nat.add_assoc, Nat.add_comm 1 j] using this) (by simp only [List.length_cons] at hk; omega) (inv.set hr' hkn) hB' hK)
theorem wp_region_loudTail (n : Nat) (Z : World) (ls : List Tmp) (V : Tmp → Value → World → Prop) {id : Nat} {Q : Exit → Act → World → Prop} {a : Act} {w : World} {l : List Oper} (hm : P.follows .mixedOrders = true) (hB : Region.lexTailB .any l.toArray n = true) (hG : guardsB l.toArray ls = true) (hI : idleB a ls = true)
  (hV : ∀ k u w w', V k u w → Below w.heap.size w w' → V k u w') (hC : Below Z.heap.size Z w.drew)
  (h : wpLoud P l.toArray Z ls V (fun b => ∀ a' w', Below Z.heap.size Z w' → Sim ls V b a' w' → wpList P l.toArray Q (l.drop n) a' w') (l.take n) a) : (Code.region id l.toArray true).wp P Q a w := by
 simp only [Region.lexTailB, Bool.and_eq_true, decide_eq_true_eq] at hB
 obtain ⟨⟨⟨⟨hsel, hn⟩, hs⟩, hc⟩, hlex⟩ := hB
 have hn' : n < l.length := by simpa using hn
 have htl : (l.take n).length = n := by simp; omega
 have hdl : (l.drop n).length = l.toArray.size - n := by simp
 have inv0 : HeadInv .any l.toArray n (Array.replicate l.toArray.size false) :=
  ⟨by simp, fun j oj _ hl => (by rw [getD_replicate_false] at hl; cases hl), fun t _ ht => getD_in (by simpa using ht) (getD_replicate_false _ _)⟩
 have H := wpAnyLT_lex (P := P) (Z := Z) (ls := ls) (V := V) (md := .any) (g := l.toArray.size - n) hs hc hn (l.take n) 0 _ a (fun j hj => by
  have hj' : j < n := by rw [htl] at hj; exact hj
  simp [hj']) (by simpa using htl) inv0 (by rw [htl]; exact hlex) h
 refine wp_region_any hm ?_
 have := wpAny_of_loudHead (Q' := Q) (g := l.toArray.size - n) hV hG (fun listed b' a' w' hC' hS hL => by
  have := wpAny_of_seq (md := .any) (Q' := Q) (l.drop n) n listed a' w' (fun j => by simp [List.getElem?_drop]) (by rw [hdl]; exact hL.1) (hL.2 a' w' hC' hS)
  rwa [hdl] at this) _ _ a a w.drew hC (idle_sim hI) H
 rw [htl, show n + (l.toArray.size - n) = l.toArray.size by omega] at this
 exact this
def fill (g : Tmp → Value) : List Tmp → Act → Act
 | [], b => b
 | k :: ks, b => fill g ks (b.put (some k) (g k))
theorem fill_size (g : Tmp → Value) : ∀ (ls : List Tmp) (b : Act), (fill g ls b).tmps.size = b.tmps.size ∧ (fill g ls b).defers = b.defers
 | [], b => ⟨rfl, rfl⟩
 | k :: ks, b => by
  have := fill_size g ks (b.put (some k) (g k))
  exact ⟨this.1.trans (by simp [Act.put]), this.2⟩
theorem fill_eval (g : Tmp → Value) (k : Tmp) : ∀ (ls : List Tmp) (b : Act), k < b.tmps.size → (fill g ls b).eval (.tmp k) = if ls.contains k then g k else b.eval (.tmp k)
 | [], b, _ => rfl
 | j :: ks, b, hk => by
  have h1 := fill_eval g k ks (b.put (some j) (g j)) (by simpa [Act.put] using hk)
  show (fill g ks (b.put (some j) (g j))).eval (.tmp k) = _
  rw [h1, eval_put_at]
  by_cases h2 : k = j
  ·subst h2
   rw [if_pos (c := k = k ∧ _) ⟨rfl, hk⟩]
   simp
  ·rw [if_neg (c := k = j ∧ _) (fun h => h2 h.1)]
   have h3 : (j :: ks).contains k = ks.contains k := by
    rw [List.contains_cons]
    have h4 : (k == j) = false := by simpa using h2
    rw [h4]; rfl
   rw [h3]
theorem Sim.filled {b a : Act} {w : World} (h : Sim ls V b a w) : a = fill (fun k => a.eval (.tmp k)) ls b := by
 obtain ⟨s1, s2⟩ := fill_size (fun k => a.eval (.tmp k)) ls b
 have ht : a.tmps = (fill (fun k => a.eval (.tmp k)) ls b).tmps := by
  apply Array.ext
  ·rw [s1, h.sz]
  ·intro k h1 h2
   have hk : k < b.tmps.size := by rw [← h.sz]; exact h1
   have h3 := fill_eval (fun k => a.eval (.tmp k)) k ls b hk
   have e1 : a.tmps[k] = a.eval (.tmp k) := by simp [Act.eval, h1]
   have e2 : ∀ (c : Act) (h : k < c.tmps.size), c.tmps[k] = c.eval (.tmp k) := fun c h => by simp [Act.eval, h]
   rw [e1, e2, h3]
   cases hc : ls.contains k
   ·exact (h.at_ k).2 hc
   ·rfl
 have hd : a.defers = (fill (fun k => a.eval (.tmp k)) ls b).defers := by rw [s2, h.de]
 generalize fill (fun k => a.eval (.tmp k)) ls b = c at *
 cases a
 cases c
 simp only at ht hd
 rw [ht, hd]
theorem wpLoud_end {Φ : Act → World → Prop} {b : Act} (need : List Tmp) (hn : (need.all fun k => ls.contains k && isTok (b.eval (.tmp k))) = true)
  (h : ∀ (g : Tmp → Value) (x : Ext Z), (∀ k ∈ need, V k (g k) x.wd) → Φ (fill g ls b) x.wd) : wpLoud P ops Z ls V (fun b => ∀ a' w', Below Z.heap.size Z w' → Sim ls V b a' w' → Φ a' w') [] b := by
 intro a' w' hb hs
 rw [hs.filled]
 refine h _ ⟨w', hb⟩ fun k hk => ?_
 have h1 := List.all_eq_true.1 hn k hk
 rw [Bool.and_eq_true] at h1
 exact (hs.at_ k).1 h1.1 (isTok_eq h1.2)
variable {Q : Act → Prop} {b : Act} {o : Oper} {rest : List Oper}
def plainOp : Op → Bool
 | .move _ | .assign _ | .pick _ _ _ | .load _ _ | .binOp _ _ _ _ _ | .unOp _ _ _ | .convert _ _ _ | .fieldAddr _ _ _ | .indexAddr _ _ _ | .extract _ _ | .slice _ _ _ _ _ | .index _ _ _ | .field _ _ _ => true
 | _ => false
def quietB (ops : Array Oper) (ls : List Tmp) (o : Oper) : Bool := (o.looksAt ops).all (fun k => !ls.contains k) && (match o.dst with | some d => !ls.contains d | none => true)
theorem notEnter {α : Type} (s : Sem α) (g : α → Value) (w w' : World) (f : FuncId) (args : Array Value) : ((do pure (.value (g (← s))) : Sem Next)).run P w ≠ .ok (.enter f args) w' := by
 rw [Sem.run_bind]
 cases s.run P w with
 | ok u w1 => simp [Result.andThen]
 | halt x w1 => simp [Result.andThen]
theorem plain_run {ρ : Operand → Value} (hp : plainOp o.op = true) (w w' : World) (f : FuncId) (args : Array Value) : (execOp ρ o).run P w ≠ .ok (.enter f args) w' := by
 obtain ⟨dst, op, type, pos, after, guard⟩ := o
 cases op <;> simp only [plainOp] at hp <;> (try cases hp)
 case move x => simp [execOp]
 case assign x => simp [execOp]
 case pick c x y => exact notEnter (asBool (ρ c)) (fun t => if t then ρ x else ρ y) w w' f args
 all_goals exact notEnter _ (fun t => t) w w' f args
theorem simAt_eval {b a : Act} {w : World} (hq : quietB ops ls o = true) (hs : ∀ k ∈ o.looksAt ops, SimAt ls V b a w k) : ∀ x ∈ o.op.operands, a.eval x = b.eval x := fun x hx => by
 unfold quietB at hq
 rw [Bool.and_eq_true] at hq
 cases x with
 | tmp k =>
  have hk : k ∈ o.looksAt ops := List.mem_append_left _ (List.mem_filterMap.2 ⟨.tmp k, by simpa using hx, rfl⟩)
  have h1 := List.all_eq_true.1 hq.1 k hk
  exact (hs k hk).2 (by simpa using h1)
 | const v => rfl
 | global v => rfl
 | func v => rfl
theorem quietB_dst (hq : quietB ops ls o = true) : ∀ d, o.dst = some d → ls.contains d = false := fun d hd => by
 unfold quietB at hq
 rw [Bool.and_eq_true, hd] at hq
 simpa using hq.2
theorem wpLoud_val (hw : Region.wanted o (yielded ops b.tmps) = true) (hq : quietB ops ls o = true) (hsel : ∀ cs t, o.op ≠ .select cs t) (v : Value) (hr : ∀ x : Ext Z, (execOp b.eval o).run P x.wd = .ok (.value v) x.wd)
  (b' : Act) (hb : b.put o.dst v = b') (h : wpLoud P ops Z ls V Q rest b') : wpLoud P ops Z ls V Q (o :: rest) b := by
 subst hb
 unfold wpLoud
 rw [if_pos hw]
 refine ⟨v, fun a w hC hs => ?_, h⟩
 rw [execOp_congr o hsel (simAt_eval hq hs), show (execOp b.eval o).run P w = .ok (.value v) w from hr ⟨w, hC⟩]
 exact .inl ⟨rfl, rfl, quietB_dst hq⟩
theorem wpLoud_plain (hw : Region.wanted o (yielded ops b.tmps) = true) (hq : quietB ops ls o = true) (hp : plainOp o.op = true)
  (h : ∀ K : Act → Prop, (∀ b, wpLoud P ops Z ls V Q rest b → K b) → o.quiet P b (fun w => ∃ x : Ext Z, w = x.wd) K) : wpLoud P ops Z ls V Q (o :: rest) b := by
 unfold wpLoud
 rw [if_pos hw]
 obtain ⟨v, h1, h2⟩ := h _ (fun _ h => h)
 refine ⟨v, fun a w hC hs => ?_, h2⟩
 have hsel : ∀ cs t, o.op ≠ .select cs t := fun cs t he => by rw [he] at hp; cases hp
 have h3 := h1 w ⟨⟨w, hC⟩, rfl⟩
 rw [execOp_congr o hsel (simAt_eval hq hs)]
 unfold Oper.quietAt at h3
 have hne := plain_run (P := P) (ρ := b.eval) hp w
 have hnk : ∀ w', (execOp b.eval o).run P w ≠ .ok .skip w' := by
  obtain ⟨dst, op, type, pos, after, guard⟩ := o
  have key : ∀ {α : Type} (s : Sem α) (g : α → Value) (w' : World), ((do pure (.value (g (← s))) : Sem Next)).run P w ≠ .ok .skip w' := by
   intro α s g w'
   rw [Sem.run_bind]
   cases s.run P w with
   | ok u w1 => simp [Result.andThen]
   | halt x w1 => simp [Result.andThen]
  intro w'
  cases op <;> simp only [plainOp] at hp <;> (try cases hp)
  case move x => simp [execOp]
  case assign x => simp [execOp]
  case pick c x y => exact key (asBool (b.eval c)) (fun t => if t then b.eval x else b.eval y) w'
  all_goals exact key _ (fun t => t) w'
 generalize (execOp b.eval o).run P w = r at *
 cases r with
 | ok n w' =>
  cases n <;> simp only [Oper.quietUpon] at h3
  case value u => exact .inl ⟨h3.1, h3.2, quietB_dst hq⟩
  case skip => exact absurd rfl (hnk w')
  case enter f args => exact absurd rfl (hne w' f args)
 | halt x w' => simp only [Oper.quietUpon] at h3
theorem wpLoud_load (hw : Region.wanted o (yielded ops b.tmps) = true) (hq : quietB ops ls o = true) (ty : TypeId) (x : Operand) (ho : o.op = .load ty x) (n off : Nat) (hx : b.eval x = .pointer (some ⟨n, off, none⟩)) (cs : List Value) (d : TypeDesc)
  (hc : ∀ y : Ext Z, y.wd.rangeAt n off cs) (hu : P.underlying ty = some d) (hd : d.isRow = true) (hi : (P.info? ty).map (·.size) = some cs.length)
  (b' : Act) (hb : b.put o.dst (.agg cs.toArray) = b') (h : wpLoud P ops Z ls V Q rest b') : wpLoud P ops Z ls V Q (o :: rest) b :=
 wpLoud_val hw hq (fun cs t he => by rw [ho] at he; cases he) _ (fun y => by
  unfold execOp
  simp only [ho, hx, Instr.loadAt, Instr.sureAddr, Sem.run_bind, Sem.run_pure, Result.andThen_ok, run_loadVar_mid y.wd n off ty cs d (hc y) hu hd hi]) b' hb h
theorem wpLoud_make (hw : Region.wanted o (yielded ops b.tmps) = true) (hsel : ∀ cs t, o.op ≠ .select cs t) (hq : ((o.looksAt ops).all fun k => !ls.contains k) = true) (d : Tmp) (hd : o.dst = some d) (hl : ls.contains d = true)
  (hr : ∀ x : Ext Z, ∃ u w', (execOp b.eval o).run P x.wd = .ok (.value u) w' ∧ Below x.wd.heap.size x.wd w' ∧ V d u w')
  (b' : Act) (hb : b.put o.dst tok = b') (h : wpLoud P ops Z ls V Q rest b') : wpLoud P ops Z ls V Q (o :: rest) b := by
 subst hb
 unfold wpLoud
 rw [if_pos hw]
 refine ⟨tok, fun a w hC hs => ?_, h⟩
 have he : ∀ x ∈ o.op.operands, a.eval x = b.eval x := fun x hx => by
  cases x with
  | tmp k =>
   have hk : k ∈ o.looksAt ops := List.mem_append_left _ (List.mem_filterMap.2 ⟨.tmp k, by simpa using hx, rfl⟩)
   exact (hs k hk).2 (by simpa using List.all_eq_true.1 hq k hk)
  | const v => rfl
  | global v => rfl
  | func v => rfl
 obtain ⟨u, w', h1, h2, h3⟩ := hr ⟨w, hC⟩
 rw [execOp_congr o hsel he, show (execOp b.eval o).run P w = .ok (.value u) w' from h1]
 exact .inr ⟨h2, fun d' hd' => by rw [hd] at hd'; injection hd' with hd'; subst hd'; exact ⟨hl, h3⟩⟩
theorem wpLoud_move (hw : Region.wanted o (yielded ops b.tmps) = true) (k d : Tmp) (ho : o.op = .assign (.tmp k) ∨ o.op = .move (.tmp k)) (hd : o.dst = some d) (hk : ls.contains k = true) (hl : ls.contains d = true) (ht : isTok (b.eval (.tmp k)) = true) (hV : ∀ u w, V k u w → V d u w)
  (b' : Act) (hb : b.put o.dst tok = b') (h : wpLoud P ops Z ls V Q rest b') : wpLoud P ops Z ls V Q (o :: rest) b := by
 subst hb
 unfold wpLoud
 rw [if_pos hw]
 refine ⟨tok, fun a w hC hs => ?_, h⟩
 have hrun : (execOp a.eval o).run P w = .ok (.value (a.eval (.tmp k))) w := by
  rcases ho with ho | ho <;> · unfold execOp; simp only [ho, Sem.run_pure]
 have hm : k ∈ o.looksAt ops := by
  unfold Oper.looksAt
  rcases ho with ho | ho <;> · rw [ho]; simp [Op.operands]
 have hv := (hs k hm).1 hk (isTok_eq ht)
 rw [hrun]
 exact .inr ⟨jE _ _, fun d' hd' => by rw [hd] at hd'; injection hd' with hd'; subst hd'; exact ⟨hl, hV _ _ hv⟩⟩
theorem wpLoud_loadB (hw : Region.wanted o (yielded ops b.tmps) = true) (hq : quietB ops ls o = true) (ty : TypeId) (x : Operand) (ho : o.op = .load ty x) (n off : Nat) (hx : b.eval x = .pointer (some ⟨n, off, none⟩)) (cs : Array Value) (d : TypeDesc)
  (hc : ∀ y : Ext Z, y.wd.rangeAt n off cs.toList) (hu : P.underlying ty = some d) (hd : d.isRow = true) (hi : (P.info? ty).map (·.size) = some cs.toList.length)
  (b' : Act) (hb : b.put o.dst (.agg cs) = b') (h : wpLoud P ops Z ls V Q rest b') : wpLoud P ops Z ls V Q (o :: rest) b :=
 wpLoud_load hw hq ty x ho n off hx cs.toList d hc hu hd hi b' (by rw [Array.toArray_toList]; exact hb) h
def over (ls : List Tmp) (b : Act) (g : Tmp → Value) : Operand → Value
 | .tmp k => if ls.contains k then g k else b.eval (.tmp k)
 | x => b.eval x
theorem wpLoud_call (d : Tmp) (hd : o.dst = some d) (need : List Tmp) (v : Value) (f : FuncId) (args : (Tmp → Value) → Array Value) (hw : Region.wanted o (yielded ops b.tmps) = true) (hsel : ∀ cs t, o.op ≠ .select cs t)
  (hn : (need.all fun k => ls.contains k && ((o.looksAt ops).contains k && isTok (b.eval (.tmp k)))) = true)
  (hrun : ∀ (g : Tmp → Value) w, (execOp (over ls b g) o).run P w = .ok (.enter f (args g)) w)
  (hc : ∀ (g : Tmp → Value) (x : Ext Z), (∀ k ∈ need, V k (g k) x.wd) → Calls P f (args g) x.wd fun e w'' => ∃ u, e = .returned u ∧ Below x.wd.heap.size x.wd w'' ∧ (if ls.contains d then V d u w'' else u = v))
  (b' : Act) (hb : b.put o.dst v = b') (h : wpLoud P ops Z ls V Q rest b') : wpLoud P ops Z ls V Q (o :: rest) b := by
 subst hb
 unfold wpLoud
 rw [if_pos hw]
 refine ⟨v, fun a w hC hs => ?_, h⟩
 have he : ∀ x ∈ o.op.operands, a.eval x = over ls b (fun k => a.eval (.tmp k)) x := fun x hx => by
  cases x with
  | tmp k =>
   have hk : k ∈ o.looksAt ops := List.mem_append_left _ (List.mem_filterMap.2 ⟨.tmp k, by simpa using hx, rfl⟩)
   show _ = if ls.contains k then _ else _
   cases hcn : ls.contains k
   ·exact (hs k hk).2 hcn
   ·rfl
  | const v => rfl
  | global v => rfl
  | func v => rfl
 rw [execOp_congr o hsel he, hrun]
 refine ⟨rfl, (hc _ ⟨w, hC⟩ fun k hk => ?_).mono ?_⟩
 ·have h1 := List.all_eq_true.1 hn k hk
  simp only [Bool.and_eq_true] at h1
  exact (hs k (by simpa using h1.2.1)).1 h1.1 (isTok_eq h1.2.2)
 ·rintro e w'' ⟨u, h1, h2, h3⟩
  refine ⟨u, h1, h2, fun d' hd' => ?_⟩
  rw [hd] at hd'
  injection hd' with hd'
  subst hd'
  exact ⟨fun h4 => by rwa [if_pos h4] at h3, fun h4 => by rwa [if_neg (by rw [h4]; exact Bool.false_ne_true)] at h3⟩
end
theorem cell_ext {Z : World} {a : Addr} {v : Value} (h : Z.cell? a = some v) : ∀ x : Ext Z, x.wd.cell? a = some v := fun x => x.cell h
theorem run_built (w : World) (t : TypeId) (parts : List (Nat × Value)) (cells : Array Value) (hf : Tryz.prog.built t parts = some cells) {o : Oper} {a : Act} (ps : Array (Nat × Operand)) (ho : o.op = .build t ps) (hp : (ps.map fun (i, x) => (i, a.eval x)).toList = parts) :
  (execOp a.eval o).run Tryz.prog w = .ok (.value (.agg cells)) w := by
 subst hp
 unfold execOp
 simp only [ho, Sem.run_bind, run_build w t _ cells hf, Result.andThen_ok]
 rfl
section
variable {P : Program} {ops : Array Oper} {Q : Exit → Act → World → Prop}
theorem wpList_valG {ops : Array Oper} {rest : List Oper} {o : Oper} {a : Act} {w : World} {Q : Exit → Act → World → Prop} (hw : Region.wanted o (yielded ops a.tmps) = true) (v : Value) (hr : (execOp a.eval o).run P w = .ok (.value v) w)
  (h : wpList P ops Q rest (a.put o.dst v) w) : wpList P ops Q (o :: rest) a w :=
 wpList_step fun K hK => by
  rw [if_pos hw]
  unfold Oper.wp
  rw [hr]
  exact hK _ _ h
theorem wpList_loadG {ops : Array Oper} {rest : List Oper} {o : Oper} {a : Act} {w : World} {Q : Exit → Act → World → Prop} (hw : Region.wanted o (yielded ops a.tmps) = true) (ty : TypeId) (x : Operand) (ho : o.op = .load ty x) (n off : Nat) (hx : a.eval x = .pointer (some ⟨n, off, none⟩)) (cs : List Value) (d : TypeDesc)
  (hc : w.rangeAt n off cs) (hu : P.underlying ty = some d) (hd : d.isRow = true) (hi : (P.info? ty).map (·.size) = some cs.length)
  (h : wpList P ops Q rest (a.put o.dst (.agg cs.toArray)) w) : wpList P ops Q (o :: rest) a w :=
 wpList_valG hw _ (by
  unfold execOp
  simp only [ho, hx, Instr.loadAt, Instr.sureAddr, Sem.run_bind, Sem.run_pure, Result.andThen_ok, run_loadVar_mid w n off ty cs d hc hu hd hi]) h
theorem wpList_valM {rest : List Oper} {o : Oper} {a : Act} {w : World} (hw : Region.wanted o (yielded ops a.tmps) = true) (v : Value) (w' : World) (hr : (execOp a.eval o).run P w = .ok (.value v) w')
  (h : wpList P ops Q rest (a.put o.dst v) w') : wpList P ops Q (o :: rest) a w :=
 wpList_step fun K hK => by
  rw [if_pos hw]
  unfold Oper.wp
  rw [hr]
  exact hK _ _ h
end
end Go.Proofs.YtfnhmnbcponkfaaGreatDoor
