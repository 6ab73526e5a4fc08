/- Small laws on worlds: a block that is known whole. -/
import Derived.WalkKit
import Derived.Deep.Draws
import Derived.Deep.QuietTactic
import Derived.BigQuiet
namespace Go.Proofs.Ytlidfmbmlhaacaa
open Go.RowKit
theorem cellOf {w : World} {B i : Nat} {cs : Array Value} {T : TypeId} {fz : Nat × Nat} {v : Value} (h : w.heap[B]? = some (.cells cs T fz)) (hv : cs[i]? = some v) : w.cell? ⟨B, i, none⟩ = some v := by
  simp [World.cell?, h, hv]
theorem freeOf {w : World} {B i : Nat} {cs : Array Value} {T : TypeId} (h : w.heap[B]? = some (.cells cs T (0, 0))) : w.frozen? ⟨B, i, none⟩ = false := by
  simp [World.frozen?, h]
theorem heapSet {w : World} {B i : Nat} {cs : Array Value} {T : TypeId} {fz : Nat × Nat} (v : Value) (h : w.heap[B]? = some (.cells cs T fz)) : (w.setCell ⟨B, i, none⟩ v).heap[B]? = some (.cells (cs.setIfInBounds i v) T fz) := by
  simp only [World.setCell, Array.getElem?_modify, if_true, h]; rfl
theorem heapSize_set (w : World) (a : Addr) (v : Value) : (w.setCell a v).heap.size = w.heap.size := by simp [World.setCell]
theorem heapDrew (w : World) : w.drew.heap = w.heap := rfl
theorem heapDrewN (w : World) (n : Nat) : (w.drewN n).heap = w.heap := rfl
theorem heapNew (w : World) (o : Obj) : (w.alloc o).heap[w.heap.size]? = some o := by
  show (w.heap.push o)[w.heap.size]? = some o
  simp
theorem belowDrewN {B : Nat} {a w : World} (n : Nat) (h : Below B a w) : Below B a (w.drewN n) := ⟨h.os, h.tape, h.output, h.size, h.block⟩
theorem u8_of_i64 {n m : Int} (h : n = m) : Value.int .u8 n = Value.int .u8 m := by rw [h]
theorem add_block (a : Addr) (n : Nat) : (a.add n).block = a.block := by unfold Addr.add; split <;> rfl
/-- from this address on lie these cells, below block B; nothing is said of the address of no cells -/
def Rd (w : World) (B : Nat) (A : Option Addr) (xs : List Value) : Prop :=
  xs ≠ [] → ∃ ad, A = some ad ∧ ad.block < B ∧ ∀ (j : Nat) (u : Value), xs[j]? = some u → w.cell? (ad.add j) = some u
theorem Rd.nil_ (w : World) (B : Nat) (A : Option Addr) : Rd w B A [] := fun h => absurd rfl h
theorem Rd.keep {w w' : World} {B : Nat} {A : Option Addr} {xs : List Value} (h : Rd w B A xs) (hk : ∀ p : Addr, p.block < B → w'.cell? p = w.cell? p) : Rd w' B A xs := fun hn => by
  obtain ⟨ad, e, hb, hc⟩ := h hn
  exact ⟨ad, e, hb, fun j u hu => (hk _ (by rw [add_block]; exact hb)).trans (hc j u hu)⟩
theorem Rd.below {w w' : World} {B : Nat} {A : Option Addr} {xs : List Value} (h : Rd w B A xs) (hb : Below B w w') : Rd w' B A xs := h.keep fun _ hp => hb.cell hp
theorem Rd.more {w : World} {B B' : Nat} {A : Option Addr} {xs : List Value} (h : Rd w B A xs) (hB : B ≤ B') : Rd w B' A xs := fun hn => by
  obtain ⟨ad, e, hb, hc⟩ := h hn
  exact ⟨ad, e, by omega, hc⟩
/-- numbers as bytes -/
def byt (l : List Nat) : List Value := l.map fun (n : Nat) => Value.int .u8 (n : Int)
theorem byt_len (l : List Nat) : (byt l).length = l.length := by simp [byt]
theorem byt_at {l : List Nat} {k : Nat} (h : k < l.length) : (byt l)[k]? = some (.int .u8 (l.getD k 0 : Nat)) := by
  simp [byt, h, List.getD_eq_getElem?_getD]
theorem Rd.byte {w : World} {B : Nat} {A : Option Addr} {l : List Nat} (h : Rd w B A (byt l)) {k : Nat} (hk : k < l.length) :
    ∃ ad, A = some ad ∧ ad.block < B ∧ w.cell? (ad.add k) = some (.int .u8 (l.getD k 0 : Nat)) := by
  obtain ⟨ad, e, hb, hc⟩ := h (fun h0 => by have := byt_len l; rw [h0] at this; simp at this; omega)
  exact ⟨ad, e, hb, hc k _ (byt_at hk)⟩
theorem getD_lt {l : List Nat} (h : ∀ c ∈ l, c < 256) (k : Nat) : l.getD k 0 < 256 := by
  rw [List.getD_eq_getElem?_getD]
  rcases Nat.lt_or_ge k l.length with hk | hk
  · rw [List.getElem?_eq_getElem hk]; exact h _ (List.getElem_mem _)
  · rw [List.getElem?_eq_none hk]; simp
theorem drop_lt {l : List Nat} (h : ∀ c ∈ l, c < 256) (k : Nat) : ∀ c ∈ l.drop k, c < 256 := fun c hc => h c (List.mem_of_mem_drop hc)
/-- a region that draws its order, each operation quiet in a class of worlds 'W x' -/
theorem wp_region_class {P : Program} {Om : Type} (W : Om → World) {id : Nat} {Q : Exit → Act → World → Prop} {a : Act} {w : World} {l : List Oper} (hm : P.follows .mixedOrders = true) (hB : Region.lexB .any l.toArray = true) (hC : ∃ x, w.drew = W x)
    (h : wpQuiet P l.toArray (fun w' => ∃ x, w' = W x) (fun a' => ∀ w', (∃ x, w' = W x) → Q .normal a' w') l a) : (Code.region id l.toArray true).wp P Q a w :=
  wp_region_quiet (C := fun w' => ∃ x, w' = W x) hm hB hC (by simpa using h)
/-- the worlds that extend w0 -/
def Ext (w0 : World) : Type := { w : World // Below w0.heap.size w0 w }
instance Ext.some_ {w0 : World} : Nonempty (Ext w0) := ⟨⟨w0, Below.refl _ _⟩⟩
def Ext.wd {w0 : World} (x : Ext w0) : World := x.1
theorem Ext.of {w0 w : World} (h : Below w0.heap.size w0 w) : ∃ x : Ext w0, w = x.wd := ⟨⟨w, h⟩, rfl⟩
theorem Ext.bel {w0 : World} (x : Ext w0) : Below w0.heap.size w0 x.wd := x.2
theorem Ext.cell {w0 : World} (x : Ext w0) {a : Addr} {v : Value} (h : w0.cell? a = some v) : x.wd.cell? a = some v := by
  have hb : a.block < w0.heap.size := by
    rcases Nat.lt_or_ge a.block w0.heap.size with h1 | h1
    · exact h1
    · simp [World.cell?, Array.getElem?_eq_none h1] at h
  exact (x.2.cell hb).trans h
/-- a callee that makes memory, but hands back a plain value -/
theorem ext_call {P : Program} {f : FuncId} {args : Array Value} {w0 : World} {x : Ext w0} {v : Value}
    (h : Calls P f args x.wd fun e w' => e = .returned v ∧ Below x.wd.heap.size x.wd w') : Calls P f args x.wd fun e w'' => e = .returned v ∧ ∃ y : Ext w0, w'' = y.wd :=
  h.mono fun _ _ ⟨he, hb⟩ => ⟨he, Ext.of (x.2.trans (hb.mono x.2.size))⟩
theorem ext_quiet {P : Program} {f : FuncId} {args : Array Value} {w0 : World} {x : Ext w0} {v : Value}
    (h : Calls P f args x.wd fun e w' => e = .returned v ∧ ∃ n, w' = x.wd.drewN n) : Calls P f args x.wd fun e w'' => e = .returned v ∧ ∃ y : Ext w0, w'' = y.wd :=
  h.mono fun _ _ ⟨he, n, hb⟩ => ⟨he, Ext.of (hb ▸ belowDrewN n x.2)⟩
theorem ext_same {P : Program} {f : FuncId} {args : Array Value} {w0 : World} {x : Ext w0} {v : Value}
    (h : Calls P f args x.wd fun e w' => e = .returned v ∧ x.wd = w') : Calls P f args x.wd fun e w'' => e = .returned v ∧ ∃ y : Ext w0, w'' = y.wd :=
  h.mono fun _ _ ⟨he, hb⟩ => ⟨he, x, hb.symm⟩
/-- what a law's walk shows -/
def Yes (w : World) (e : Ending) (w' : World) : Prop := e = .returned (.bool true) ∧ Below w.heap.size w w'
end Go.Proofs.Ytlidfmbmlhaacaa
