/- Frames: what they are, their cells. -/
import Derived.Test.YtcmahmlcoodfoaaLou
import Derived.Test.YtcmahmlcoodfoaaByt3
import Derived.Test.YtcmahmlcoodfoaaTwo
import Derived.Test.YtcmahmlcoodfoaaSum1
import Derived.Great.Ranges
import Derived.Great.BuildSlice
namespace Go.Proofs.Ytcmahmlcoodfoaa
open Go.RowKit Go.Great
set_option linter.unusedVariables false
structure Fr where
  k : Nat
  f : Nat
  t : Nat
  i : Nat
  b : Nat
  o : Nat
  p : List Nat
  n : List Nat
  d : List Nat
structure FrOk (x : Fr) : Prop where
  k : x.k < 256
  f : x.f < 65536
  t : x.t < 65536
  i : x.i < 2 ^ 64
  b : x.b < 2 ^ 64
  o : x.o < 2 ^ 64
  p : x.p.length = 32
  n : x.n.length = 12
  ps : ∀ c ∈ x.p, c < 256
  ns : ∀ c ∈ x.n, c < 256
  ds : ∀ c ∈ x.d, c < 256
/-- a frame's cells, its body's slice v -/
def frL (x : Fr) (v : Value) : List Value :=
  [.int .u8 (x.k : Nat), .int .u16 (x.f : Nat), .int .u16 (x.t : Nat), .int .u64 (x.i : Nat), .int .u64 (x.b : Nat), .int .u64 (x.o : Nat)] ++ (byt x.p ++ (byt x.n ++ [v]))
def frV (x : Fr) (v : Value) : Array Value := (frL x v).toArray
def z12 : List Nat := List.replicate 12 0
def z32 : List Nat := List.replicate 32 0
def zFr : Fr := ⟨0, 0, 0, 0, 0, 0, z32, z12, []⟩
theorem frL_len {x : Fr} (h : FrOk x) (v : Value) : (frL x v).length = 51 := by simp [frL, byt_len, h.p, h.n]
theorem frV_size {x : Fr} (h : FrOk x) (v : Value) : (frV x v).size = 51 := by simp [frV, frL_len h]
theorem frL_p {x : Fr} (h : FrOk x) (v : Value) (j : Nat) (u : Value) (hu : (byt x.p)[j]? = some u) : (frL x v)[6 + j]? = some u := by
  have hj : j < 32 := by
    rcases Nat.lt_or_ge j 32 with h1 | h1
    · exact h1
    · rw [List.getElem?_eq_none (by rw [byt_len, h.p]; exact h1)] at hu; cases hu
  unfold frL
  rw [List.getElem?_append_right (by simp), List.getElem?_append_left (by simp [byt_len, h.p]; omega)]
  simpa using hu
theorem frL_n {x : Fr} (h : FrOk x) (v : Value) (j : Nat) (u : Value) (hu : (byt x.n)[j]? = some u) : (frL x v)[38 + j]? = some u := by
  have hj : j < 12 := by
    rcases Nat.lt_or_ge j 12 with h1 | h1
    · exact h1
    · rw [List.getElem?_eq_none (by rw [byt_len, h.n]; exact h1)] at hu; cases hu
  unfold frL
  rw [List.getElem?_append_right (by simp; omega), List.getElem?_append_right (by simp [byt_len, h.p]; omega), List.getElem?_append_left (by simp [byt_len, h.p, h.n]; omega)]
  have : 38 + j - [Value.int .u8 (x.k : Nat), .int .u16 (x.f : Nat), .int .u16 (x.t : Nat), .int .u64 (x.i : Nat), .int .u64 (x.b : Nat), .int .u64 (x.o : Nat)].length - (byt x.p).length = j := by simp [byt_len, h.p]; omega
  rw [this]; exact hu
theorem frL_d {x : Fr} (h : FrOk x) (v : Value) : (frL x v)[50]? = some v := by
  unfold frL
  rw [List.getElem?_append_right (by simp), List.getElem?_append_right (by simp [byt_len, h.p]), List.getElem?_append_right (by simp [byt_len, h.p, h.n])]
  simp [byt_len, h.p, h.n]
/-- a frame in memory -/
structure FrAt (w : World) (g : Nat) (x : Fr) (v : Value) : Prop where
  lt : g < w.heap.size
  c0 : w.cell? ⟨g, 0, none⟩ = some (.int .u8 (x.k : Nat))
  c1 : w.cell? ⟨g, 1, none⟩ = some (.int .u16 (x.f : Nat))
  c2 : w.cell? ⟨g, 2, none⟩ = some (.int .u16 (x.t : Nat))
  c3 : w.cell? ⟨g, 3, none⟩ = some (.int .u64 (x.i : Nat))
  c4 : w.cell? ⟨g, 4, none⟩ = some (.int .u64 (x.b : Nat))
  c5 : w.cell? ⟨g, 5, none⟩ = some (.int .u64 (x.o : Nat))
  cp : w.rangeAt g 6 (byt x.p)
  cn : w.rangeAt g 38 (byt x.n)
  cd : w.cell? ⟨g, 50, none⟩ = some v
  al : w.rangeAt g 0 (frL x v)
theorem FrAt.of {w : World} {g : Nat} {x : Fr} {v : Value} (hx : FrOk x) (h : Blk w g 43 (frV x v)) : FrAt w g x v := by
  have hc : ∀ j, w.cell? ⟨g, j, none⟩ = (frL x v)[j]? := fun j => (h.cell j).trans (by simp [frV])
  exact ⟨h.lt, hc 0, hc 1, hc 2, hc 3, hc 4, hc 5, fun j u hu => (hc _).trans (frL_p hx v j u hu), fun j u hu => (hc _).trans (frL_n hx v j u hu), (hc _).trans (frL_d hx v), fun j u hu => (by rw [Nat.zero_add]; exact (hc _).trans hu)⟩
theorem FrAt.below {w w' : World} {B g : Nat} {x : Fr} {v : Value} (h : FrAt w g x v) (hb : Below B w w') (hg : g < B) (hB : B ≤ w.heap.size) : FrAt w' g x v := by
  have hc : ∀ j, w'.cell? ⟨g, j, none⟩ = w.cell? ⟨g, j, none⟩ := fun j => hb.cell hg
  exact ⟨Nat.lt_of_lt_of_le h.lt hb.size, (hc _).trans h.c0, (hc _).trans h.c1, (hc _).trans h.c2, (hc _).trans h.c3, (hc _).trans h.c4, (hc _).trans h.c5, fun j u hu => (hc _).trans (h.cp j u hu), fun j u hu => (hc _).trans (h.cn j u hu), (hc _).trans h.cd, fun j u hu => (hc _).trans (h.al j u hu)⟩
theorem FrAt.next {w w' : World} {g : Nat} {x : Fr} {v : Value} (h : FrAt w g x v) (hb : Below w.heap.size w w') : FrAt w' g x v := h.below hb h.lt (Nat.le_refl _)
theorem FrAt.ext {w : World} {g : Nat} {x : Fr} {v : Value} (h : FrAt w g x v) (y : Ext w) : FrAt y.wd g x v := h.next y.2
/-- a frame as the document says -/
def hdF (x : Fr) : List Nat := [x.k] ++ form x.f 2 ++ form x.t 2 ++ form x.i 8
def formF (x : Fr) : List Nat := if x.k = 72 then hdF x ++ form x.b 8 ++ form x.o 8 ++ x.p else hdF x ++ x.n ++ x.d
def ckF (x : Fr) : Bool := (x.f != x.t && decide (x.f < 32) && decide (x.t < 32)) && (if x.k = 72 then x.n == z12 && decide (x.d.length = 0) else decide (x.k = 68) && (decide (x.b = 0) && decide (x.o = 0)) && x.p == z32 && decide (16 ≤ x.d.length) && decide (x.d.length ≤ 4112))
def sameF (x y : Fr) : Bool := hdF x == hdF y && x.b == y.b && x.o == y.o && x.p == y.p && x.n == y.n && x.d == y.d
theorem hdF_len (x : Fr) : (hdF x).length = 13 := by simp [hdF, form_len]
theorem hdF_lt {x : Fr} (h : FrOk x) : ∀ c ∈ hdF x, c < 256 := by
  intro c hc
  simp only [hdF, List.mem_append, List.mem_singleton] at hc
  rcases hc with ((rfl | hc) | hc) | hc
  · exact h.k
  · exact form_lt _ _ c hc
  · exact form_lt _ _ c hc
  · exact form_lt _ _ c hc
theorem hdF_inj {x y : Fr} (hx : FrOk x) (hy : FrOk y) (h : hdF x = hdF y) : x.k = y.k ∧ x.f = y.f ∧ x.t = y.t ∧ x.i = y.i := by
  unfold hdF at h
  obtain ⟨h1, h4⟩ := List.append_inj h (by simp [form_len])
  obtain ⟨h1, h3⟩ := List.append_inj h1 (by simp [form_len])
  obtain ⟨h1, h2⟩ := List.append_inj h1 (by simp)
  refine ⟨by simpa using h1, ?_, ?_, ?_⟩
  · have := congrArg number h2
    rwa [number_form _ _ hx.f, number_form _ _ hy.f] at this
  · have := congrArg number h3
    rwa [number_form _ _ hx.t, number_form _ _ hy.t] at this
  · have := congrArg number h4
    rwa [number_form _ _ hx.i, number_form _ _ hy.i] at this
theorem sameF_iff {x y : Fr} (hx : FrOk x) (hy : FrOk y) : sameF x y = true ↔ x = y := by
  unfold sameF
  simp only [Bool.and_eq_true, beq_iff_eq]
  constructor
  · rintro ⟨⟨⟨⟨⟨h, hb⟩, ho⟩, hp⟩, hn⟩, hd⟩
    obtain ⟨h1, h2, h3, h4⟩ := hdF_inj hx hy h
    cases x; cases y
    simp only at *
    subst h1 h2 h3 h4 hb ho hp hn hd
    rfl
  · rintro rfl
    exact ⟨⟨⟨⟨⟨rfl, rfl⟩, rfl⟩, rfl⟩, rfl⟩, rfl⟩
theorem z12_len : z12.length = 12 := by simp [z12]
theorem z32_len : z32.length = 32 := by simp [z32]
theorem z12_lt : ∀ c ∈ z12, c < 256 := by intro c hc; rw [List.eq_of_mem_replicate hc]; decide
theorem z32_lt : ∀ c ∈ z32, c < 256 := by intro c hc; rw [List.eq_of_mem_replicate hc]; decide
theorem zFr_ok : FrOk zFr := ⟨by decide, by decide, by decide, by decide, by decide, by decide, z32_len, z12_len, z32_lt, z12_lt, by intro c hc; cases hc⟩
section
variable {P : Program}
/-- an operation that yields a value in the world that it got, a guard or not -/
theorem wpList_valG {ops : Array Oper} {rest : List Oper} {o : Oper} {a : Act} {w : World} {Q : Exit → Act → World → Prop} (hw : Region.wanted o (yielded ops a.tmps) = true) (v : Value) (hr : (execOp a.eval o).run P w = .ok (.value v) w)
    (h : wpList P ops Q rest (a.put o.dst v) w) : wpList P ops Q (o :: rest) a w :=
  wpList_step fun K hK => by
    rw [if_pos hw]
    unfold Oper.wp
    rw [hr]
    exact hK _ _ h
theorem wpList_loadG {ops : Array Oper} {rest : List Oper} {o : Oper} {a : Act} {w : World} {Q : Exit → Act → World → Prop} (hw : Region.wanted o (yielded ops a.tmps) = true) (ty : TypeId) (x : Operand) (ho : o.op = .load ty x) (n off : Nat) (hx : a.eval x = .pointer (some ⟨n, off, none⟩)) (cs : List Value) (d : TypeDesc)
    (hc : w.rangeAt n off cs) (hu : P.underlying ty = some d) (hd : d.isRow = true) (hi : (P.info? ty).map (·.size) = some cs.length)
    (h : wpList P ops Q rest (a.put o.dst (.agg cs.toArray)) w) : wpList P ops Q (o :: rest) a w :=
  wpList_valG hw _ (by
    unfold execOp
    simp only [ho, hx, Instr.loadAt, Instr.sureAddr, Sem.run_bind, Sem.run_pure, Result.andThen_ok, run_loadVar_mid w n off ty cs d hc hu hd hi]) h
theorem wpList_loadB {ops : Array Oper} {rest : List Oper} {o : Oper} {a : Act} {w : World} {Q : Exit → Act → World → Prop} (hw : Region.wanted o (yielded ops a.tmps) = true) (ty : TypeId) (x : Operand) (ho : o.op = .load ty x) (n off : Nat) (hx : a.eval x = .pointer (some ⟨n, off, none⟩)) (l : List Nat) (d : TypeDesc)
    (hc : w.rangeAt n off (byt l)) (hu : P.underlying ty = some d) (hd : d.isRow = true) (hi : (P.info? ty).map (·.size) = some (byt l).length)
    (h : wpList P ops Q rest (a.put o.dst (.agg (vb l))) w) : wpList P ops Q (o :: rest) a w := wpList_loadG hw ty x ho n off hx (byt l) d hc hu hd hi h
theorem run_built (w : World) (t : TypeId) (parts : List (Nat × Value)) (cells : Array Value) (hf : P.built t parts = some cells) {o : Oper} {a : Act} (ps : Array (Nat × Operand)) (ho : o.op = .build t ps) (hp : (ps.map fun (i, x) => (i, a.eval x)).toList = parts) :
    (execOp a.eval o).run P w = .ok (.value (.agg cells)) w := by
  subst hp
  unfold execOp
  simp only [ho, Sem.run_bind, run_build w t _ cells hf, Result.andThen_ok]
  rfl
end
end Go.Proofs.Ytcmahmlcoodfoaa
