/- Which blocks a call may have turned; what stays of rows, blocks, slices elsewhere. -/
import Derived.Test.YtlidfmbmlhaacaaApp
namespace Go.Proofs.Ytlidfmbmlhaacaa
open Go.RowKit
/-- only blocks in S, and what is new, may have turned -/
structure Only (S : Nat → Prop) (w w' : World) : Prop where
  os : w'.os = w.os
  tape : w'.tape = w.tape
  output : w'.output = w.output
  size : w.heap.size ≤ w'.heap.size
  block : ∀ k, k < w.heap.size → ¬ S k → w'.heap[k]? = w.heap[k]?
section
variable {S T : Nat → Prop} {w w' w'' : World}
theorem Only.refl (S : Nat → Prop) (w : World) : Only S w w := ⟨rfl, rfl, rfl, Nat.le_refl _, fun _ _ _ => rfl⟩
theorem Only.trans (h : Only S w w') (k : Only S w' w'') : Only S w w'' :=
  ⟨k.os.trans h.os, k.tape.trans h.tape, k.output.trans h.output, Nat.le_trans h.size k.size, fun i hi hn => (k.block i (Nat.lt_of_lt_of_le hi h.size) hn).trans (h.block i hi hn)⟩
/-- what is new since w may have turned as well -/
theorem Only.then_ (h : Only S w w') (k : Only T w' w'') (hT : ∀ i, i < w.heap.size → T i → S i) : Only S w w'' :=
  ⟨k.os.trans h.os, k.tape.trans h.tape, k.output.trans h.output, Nat.le_trans h.size k.size, fun i hi hn => (k.block i (Nat.lt_of_lt_of_le hi h.size) (fun ht => hn (hT i hi ht))).trans (h.block i hi hn)⟩
theorem Only.mono (h : Only S w w') (hS : ∀ i, i < w.heap.size → S i → T i) : Only T w w' :=
  ⟨h.os, h.tape, h.output, h.size, fun i hi hn => h.block i hi (fun hs => hn (hS i hi hs))⟩
theorem Only.of_below (h : Below w.heap.size w w') : Only S w w' := ⟨h.os, h.tape, h.output, h.size, fun i hi _ => h.block i hi⟩
theorem Only.below {B : Nat} (h : Only S w w') (hS : ∀ i, S i → B ≤ i) (hB : B ≤ w.heap.size) : Below B w w' := ⟨h.os, h.tape, h.output, h.size, fun i hi => h.block i (by omega) (fun hs => by have := hS i hs; omega)⟩
theorem Only.of_grown {row : Option Nat} (h : w.grownBy w' row) (hS : ∀ i, row = some i → S i) : Only S w w' := ⟨h.os, h.tape, h.output, h.size, fun i hi hn => h.block i hi (fun e => hn (hS i e.symm))⟩
theorem Only.drew (h : Only S w w') : Only S w w'.drew := ⟨h.os, h.tape, h.output, h.size, h.block⟩
theorem Only.drewN (h : Only S w w') (n : Nat) : Only S w (w'.drewN n) := ⟨h.os, h.tape, h.output, h.size, h.block⟩
theorem Only.alloc (h : Only S w w') (o : Obj) : Only S w (w'.alloc o) :=
  ⟨h.os, h.tape, h.output, Nat.le_trans h.size (by simp), fun i hi hn => (Below.heap_alloc _ _ _ (Nat.lt_of_lt_of_le hi h.size)).trans (h.block i hi hn)⟩
theorem Only.setCell (h : Only S w w') {p : Addr} (hp : p.block < w.heap.size → S p.block) (u : Value) : Only S w (w'.setCell p u) :=
  ⟨h.os, h.tape, h.output, by rw [heapSize_set]; exact h.size, fun i hi hn => (Below.heap_setCell _ _ _ _ (fun e => hn (by subst e; exact hp hi))).trans (h.block i hi hn)⟩
theorem Only.cell (h : Only S w w') {a : Addr} {v : Value} (hc : w.cell? a = some v) (hn : ¬ S a.block) : w'.cell? a = some v := by
  have hlt : a.block < w.heap.size := by
    rcases Nat.lt_or_ge a.block w.heap.size with h1 | h1
    · exact h1
    · simp [World.cell?, Array.getElem?_eq_none h1] at hc
  exact (World.cell?_of_block (h.block _ hlt hn)).trans hc
theorem Only.rd {B : Nat} {A : Option Addr} {xs : List Value} (h : Only S w w') (hr : Rd w B A xs) (hn : ∀ a, A = some a → ¬ S a.block) : Rd w' B A xs := fun hne => by
  obtain ⟨ad, e, hb, hc⟩ := hr hne
  exact ⟨ad, e, hb, fun j u hu => h.cell (hc j u hu) (by rw [add_block]; exact hn ad e)⟩
/-- a block known whole -/
def Blk (w : World) (g : Nat) (t : TypeId) (cs : Array Value) : Prop := w.heap[g]? = some (.cells cs t (0, 0))
theorem Blk.lt {g : Nat} {t : TypeId} {cs : Array Value} (h : Blk w g t cs) : g < w.heap.size := by
  rcases Nat.lt_or_ge g w.heap.size with hlt | hge
  · exact hlt
  · unfold Blk at h; rw [Array.getElem?_eq_none hge] at h; cases h
theorem Blk.keep {g : Nat} {t : TypeId} {cs : Array Value} (h : Blk w g t cs) (ho : Only S w w') (hn : ¬ S g) : Blk w' g t cs := (ho.block g h.lt hn).trans h
theorem Blk.below {B g : Nat} {t : TypeId} {cs : Array Value} (h : Blk w g t cs) (hb : Below B w w') (hg : g < B) : Blk w' g t cs := (hb.block g hg).trans h
theorem Blk.alloc {g : Nat} {t : TypeId} {cs : Array Value} (h : Blk w g t cs) (o : Obj) : Blk (w.alloc o) g t cs := (Below.heap_alloc w o g h.lt).trans h
theorem Blk.far {g : Nat} {t : TypeId} {cs : Array Value} (h : Blk w g t cs) {p : Addr} (hp : g ≠ p.block) (u : Value) : Blk (w.setCell p u) g t cs := (Below.heap_setCell w p u g hp).trans h
theorem Blk.new (w : World) (t : TypeId) (cs : Array Value) : Blk (w.alloc (.cells cs t)) w.heap.size t cs := heapNew w _
theorem Blk.cell {g : Nat} {t : TypeId} {cs : Array Value} (h : Blk w g t cs) (i : Nat) : w.cell? ⟨g, i, none⟩ = cs[i]? := by
  unfold Blk at h; simp [World.cell?, h]
theorem Blk.free {g : Nat} {t : TypeId} {cs : Array Value} (h : Blk w g t cs) (i : Nat) : w.frozen? ⟨g, i, none⟩ = false := freeOf h
theorem Blk.set_ {g : Nat} {t : TypeId} {cs : Array Value} (h : Blk w g t cs) (i : Nat) (u : Value) : Blk (w.setCell ⟨g, i, none⟩ u) g t (cs.setIfInBounds i u) := heapSet u h
/-- a row of the call's own stays where it isn't turned -/
theorem own_keep {base : Nat} {e : TypeId} {size n : Nat} {v : Value} {xs : List Value} (h : w.ownsRow base e size v n xs) (ho : Only S w w') (hn : ∀ g, v.ownBlock = some g → ¬ S g) : w'.ownsRow base e size v n xs := by
  refine ⟨h.1, ?_⟩
  rcases h.2 with ⟨h1, h2⟩ | ⟨g, cap, cur, rfl, hb, hh, r⟩
  · exact .inl ⟨h1, h2⟩
  · have hg : g < w.heap.size := by
      rcases Nat.lt_or_ge g w.heap.size with h1 | h1
      · exact h1
      · rw [Array.getElem?_eq_none h1] at hh; cases hh
    exact .inr ⟨g, cap, cur, rfl, hb, (ho.block g hg (hn g rfl)).trans hh, r⟩
theorem own_alloc {base : Nat} {e : TypeId} {size n : Nat} {v : Value} {xs : List Value} (h : w.ownsRow base e size v n xs) (o : Obj) : (w.alloc o).ownsRow base e size v n xs :=
  own_keep (S := fun _ => False) h ((Only.refl _ _).alloc o) (fun _ _ h => h)
theorem Apped.only {base : Nat} {e : TypeId} {size n : Nat} {v v' : Value} {xs : List Value} (h : Apped w base e size v w' v' n xs) (hS : ∀ g, v.ownBlock = some g → S g) : Only S w w' := Only.of_grown h.grown hS
end
/-- one element's append: the element lies in a block of its own -/
theorem rd_one (w : World) (u : Value) (T : TypeId) : Rd (w.alloc (.cells #[u] T)) (w.heap.size + 1) (some ⟨w.heap.size, 0, none⟩) [u] := rd_new w [u] T (0, 0)
/-- numbers of a kind, as cells -/
def wrd (k : IntKind) (l : List Nat) : List Value := l.map fun (n : Nat) => Value.int k (n : Int)
theorem wrd_len (k : IntKind) (l : List Nat) : (wrd k l).length = l.length := by simp [wrd]
theorem wrd_at {k : IntKind} {l : List Nat} {i : Nat} (h : i < l.length) : (wrd k l)[i]? = some (.int k (l.getD i 0 : Nat)) := by
  simp [wrd, h, List.getD_eq_getElem?_getD]
theorem wrd_one (k : IntKind) (l : List Nat) : ∀ u ∈ wrd k l, u.oneCell' = true := by
  intro u hu
  obtain ⟨n, _, rfl⟩ := List.mem_map.1 hu
  rfl
theorem wrd_app (k : IntKind) (l m : List Nat) : wrd k l ++ wrd k m = wrd k (l ++ m) := by simp [wrd]
theorem Rd.word {w : World} {B : Nat} {A : Option Addr} {k : IntKind} {l : List Nat} (h : Rd w B A (wrd k l)) {i : Nat} (hi : i < l.length) :
    ∃ ad, A = some ad ∧ ad.block < B ∧ w.cell? (ad.add i) = some (.int k (l.getD i 0 : Nat)) := by
  obtain ⟨ad, e, hb, hc⟩ := h (fun h0 => by have := wrd_len k l; rw [h0] at this; simp at this; omega)
  exact ⟨ad, e, hb, hc i _ (wrd_at hi)⟩
/-- numbers in a row of the call's own -/
def OwnK (w : World) (base : Nat) (T : TypeId) (k : IntKind) (v : Value) (l : List Nat) : Prop := w.ownsRow base T 1 v l.length (wrd k l)
theorem OwnK.nil_ (w : World) (base : Nat) (T : TypeId) (k : IntKind) : OwnK w base T k (.slice none 0 0) [] := ⟨rfl, .inl ⟨rfl, rfl⟩⟩
theorem OwnK.rd {w : World} {base : Nat} {T : TypeId} {k : IntKind} {v : Value} {l : List Nat} (h : OwnK w base T k v l) : ∃ A cap, v = .slice A l.length cap ∧ l.length ≤ cap ∧ cap ≤ maxLen ∧ Rd w w.heap.size A (wrd k l) := own_rd h
theorem OwnK.snoc {w w' : World} {base : Nat} {T : TypeId} {k : IntKind} {v v' : Value} {l : List Nat} {c : Nat} (h : Apped w base T 1 v w' v' (l.length + 1) (wrd k l ++ [.int k (c : Int)])) : OwnK w' base T k v' (l ++ [c]) := by
  have := h.own
  unfold OwnK
  rw [List.length_append, ← wrd_app]
  exact this
end Go.Proofs.Ytlidfmbmlhaacaa
