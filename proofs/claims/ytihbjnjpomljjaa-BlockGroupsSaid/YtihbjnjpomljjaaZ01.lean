/- Parts, one behind the other: Kit Lift App Only Eq Byt0 Bas De0 De1 De2 De3 Lou Bas2 Df1. -/
import Derived.Test.YtihbjnjpomljjaaRows
import Derived.Test.YtihbjnjpomljjaaChecked
import Derived.WalkKit
import Derived.Deep.Draws
import Derived.Deep.QuietTactic
import Derived.BigQuiet
import Derived.ProofKit
import Derived.OpenShut
import Derived.ShutString
import Derived.ChangeOld
import Derived.Below
import Derived.Maps.AppendAt
import Derived.Laws.AppendOwnNone
import Derived.Deep.AppendLies
import Derived.OwnWalk
import Derived.DeepKeys
import Derived.Laws.StructEq
import Derived.WalkSpells
import Derived.Outline
import Derived.Deep.Light
import Derived.BigRegion
import Derived.Lib.Hide
import Derived.Laws.MakeOwn
import Derived.Great.BuildSlice
import Derived.Deep.MidRow
import Derived.Laws.Cover3
import Derived.StillTailTactics
import Derived.WalkMore
import Derived.Laws.Rows
import Derived.Laws.ResultCell
import Derived.WalkLawsBesides
/- Small laws on worlds: a block that is known whole. -/
namespace Go.Proofs.Ytihbjnjpomljjaa
set_option maxRecDepth 100000
open Go.RowKit
theorem cellOf {w : World} {B i : Nat} {cs : Array Value} {T : TypeId} {fz : Nat × Nat} {v : Value} (h : w.heap[B]? = some (.cells cs T fz)) (hv : cs[i]? = some v) : w.cell? ⟨B, i, none⟩ = some v := by
  simp [World.cell?, h, hv]
theorem freeOf {w : World} {B i : Nat} {cs : Array Value} {T : TypeId} (h : w.heap[B]? = some (.cells cs T (0, 0))) : w.frozen? ⟨B, i, none⟩ = false := by
  simp [World.frozen?, h]
theorem heapSet {w : World} {B i : Nat} {cs : Array Value} {T : TypeId} {fz : Nat × Nat} (v : Value) (h : w.heap[B]? = some (.cells cs T fz)) : (w.setCell ⟨B, i, none⟩ v).heap[B]? = some (.cells (cs.setIfInBounds i v) T fz) := by
  simp only [World.setCell, Array.getElem?_modify, if_true, h]; rfl
theorem heapSize_set (w : World) (a : Addr) (v : Value) : (w.setCell a v).heap.size = w.heap.size := by simp [World.setCell]
theorem heapDrew (w : World) : w.drew.heap = w.heap := rfl
theorem heapDrewN (w : World) (n : Nat) : (w.drewN n).heap = w.heap := rfl
theorem heapNew (w : World) (o : Obj) : (w.alloc o).heap[w.heap.size]? = some o := by
  show (w.heap.push o)[w.heap.size]? = some o
  simp
theorem belowDrewN {B : Nat} {a w : World} (n : Nat) (h : Below B a w) : Below B a (w.drewN n) := ⟨h.os, h.tape, h.output, h.size, h.block⟩
theorem u8_of_i64 {n m : Int} (h : n = m) : Value.int .u8 n = Value.int .u8 m := by rw [h]
theorem add_block (a : Addr) (n : Nat) : (a.add n).block = a.block := by unfold Addr.add; split <;> rfl
/-- from this address on lie these cells, below block B; nothing is said of the address of no cells -/
def Rd (w : World) (B : Nat) (A : Option Addr) (xs : List Value) : Prop :=
  xs ≠ [] → ∃ ad, A = some ad ∧ ad.block < B ∧ ∀ (j : Nat) (u : Value), xs[j]? = some u → w.cell? (ad.add j) = some u
theorem Rd.nil_ (w : World) (B : Nat) (A : Option Addr) : Rd w B A [] := fun h => absurd rfl h
theorem Rd.keep {w w' : World} {B : Nat} {A : Option Addr} {xs : List Value} (h : Rd w B A xs) (hk : ∀ p : Addr, p.block < B → w'.cell? p = w.cell? p) : Rd w' B A xs := fun hn => by
  obtain ⟨ad, e, hb, hc⟩ := h hn
  exact ⟨ad, e, hb, fun j u hu => (hk _ (by rw [add_block]; exact hb)).trans (hc j u hu)⟩
theorem Rd.below {w w' : World} {B : Nat} {A : Option Addr} {xs : List Value} (h : Rd w B A xs) (hb : Below B w w') : Rd w' B A xs := h.keep fun _ hp => hb.cell hp
theorem Rd.more {w : World} {B B' : Nat} {A : Option Addr} {xs : List Value} (h : Rd w B A xs) (hB : B ≤ B') : Rd w B' A xs := fun hn => by
  obtain ⟨ad, e, hb, hc⟩ := h hn
  exact ⟨ad, e, by omega, hc⟩
/-- numbers as bytes -/
def byt (l : List Nat) : List Value := l.map fun (n : Nat) => Value.int .u8 (n : Int)
theorem byt_len (l : List Nat) : (byt l).length = l.length := by simp [byt]
theorem byt_at {l : List Nat} {k : Nat} (h : k < l.length) : (byt l)[k]? = some (.int .u8 (l.getD k 0 : Nat)) := by
  simp [byt, h, List.getD_eq_getElem?_getD]
theorem Rd.byte {w : World} {B : Nat} {A : Option Addr} {l : List Nat} (h : Rd w B A (byt l)) {k : Nat} (hk : k < l.length) :
    ∃ ad, A = some ad ∧ ad.block < B ∧ w.cell? (ad.add k) = some (.int .u8 (l.getD k 0 : Nat)) := by
  obtain ⟨ad, e, hb, hc⟩ := h (fun h0 => by have := byt_len l; rw [h0] at this; simp at this; omega)
  exact ⟨ad, e, hb, hc k _ (byt_at hk)⟩
theorem getD_lt {l : List Nat} (h : ∀ c ∈ l, c < 256) (k : Nat) : l.getD k 0 < 256 := by
  rw [List.getD_eq_getElem?_getD]
  rcases Nat.lt_or_ge k l.length with hk | hk
  · rw [List.getElem?_eq_getElem hk]; exact h _ (List.getElem_mem _)
  · rw [List.getElem?_eq_none hk]; simp
theorem drop_lt {l : List Nat} (h : ∀ c ∈ l, c < 256) (k : Nat) : ∀ c ∈ l.drop k, c < 256 := fun c hc => h c (List.mem_of_mem_drop hc)
/-- a region that draws its order, each operation quiet in a class of worlds 'W x' -/
theorem wp_region_class {P : Program} {Om : Type} (W : Om → World) {id : Nat} {Q : Exit → Act → World → Prop} {a : Act} {w : World} {l : List Oper} (hm : P.follows .mixedOrders = true) (hB : Region.lexB .any l.toArray = true) (hC : ∃ x, w.drew = W x)
    (h : wpQuiet P l.toArray (fun w' => ∃ x, w' = W x) (fun a' => ∀ w', (∃ x, w' = W x) → Q .normal a' w') l a) : (Code.region id l.toArray true).wp P Q a w :=
  wp_region_quiet (C := fun w' => ∃ x, w' = W x) hm hB hC (by simpa using h)
/-- the worlds that extend w0 -/
def Ext (w0 : World) : Type := { w : World // Below w0.heap.size w0 w }
instance Ext.some_ {w0 : World} : Nonempty (Ext w0) := ⟨⟨w0, Below.refl _ _⟩⟩
def Ext.wd {w0 : World} (x : Ext w0) : World := x.1
theorem Ext.of {w0 w : World} (h : Below w0.heap.size w0 w) : ∃ x : Ext w0, w = x.wd := ⟨⟨w, h⟩, rfl⟩
theorem Ext.bel {w0 : World} (x : Ext w0) : Below w0.heap.size w0 x.wd := x.2
theorem Ext.cell {w0 : World} (x : Ext w0) {a : Addr} {v : Value} (h : w0.cell? a = some v) : x.wd.cell? a = some v := by
  have hb : a.block < w0.heap.size := by
    rcases Nat.lt_or_ge a.block w0.heap.size with h1 | h1
    · exact h1
    · simp [World.cell?, Array.getElem?_eq_none h1] at h
  exact (x.2.cell hb).trans h
/-- a callee that makes memory, but hands back a plain value -/
theorem ext_call {P : Program} {f : FuncId} {args : Array Value} {w0 : World} {x : Ext w0} {v : Value}
    (h : Calls P f args x.wd fun e w' => e = .returned v ∧ Below x.wd.heap.size x.wd w') : Calls P f args x.wd fun e w'' => e = .returned v ∧ ∃ y : Ext w0, w'' = y.wd :=
  h.mono fun _ _ ⟨he, hb⟩ => ⟨he, Ext.of (x.2.trans (hb.mono x.2.size))⟩
theorem ext_quiet {P : Program} {f : FuncId} {args : Array Value} {w0 : World} {x : Ext w0} {v : Value}
    (h : Calls P f args x.wd fun e w' => e = .returned v ∧ ∃ n, w' = x.wd.drewN n) : Calls P f args x.wd fun e w'' => e = .returned v ∧ ∃ y : Ext w0, w'' = y.wd :=
  h.mono fun _ _ ⟨he, n, hb⟩ => ⟨he, Ext.of (hb ▸ belowDrewN n x.2)⟩
theorem ext_same {P : Program} {f : FuncId} {args : Array Value} {w0 : World} {x : Ext w0} {v : Value}
    (h : Calls P f args x.wd fun e w' => e = .returned v ∧ x.wd = w') : Calls P f args x.wd fun e w'' => e = .returned v ∧ ∃ y : Ext w0, w'' = y.wd :=
  h.mono fun _ _ ⟨he, hb⟩ => ⟨he, x, hb.symm⟩
/-- what a law's walk shows -/
def Yes (w : World) (e : Ending) (w' : World) : Prop := e = .returned (.bool true) ∧ Below w.heap.size w w'
end Go.Proofs.Ytihbjnjpomljjaa
/- From a law's walk (it returns true, and nothing that was there has turned) to the law's row. -/
namespace Go.Proofs.Ytihbjnjpomljjaa
set_option maxRecDepth 100000
open Go.ChangeShapes Go.WideShapes Go.ChangeAt Go.RowKit
theorem own : ownKnob Try.prog.godebug = none := by kernel_rfl
theorem laidOut : laidOutB Try.prog = true := by kernel_rfl
theorem trodAll_below {H : Type} {enc : TypeId × Value → H} {P : Program} (hl : laidOutB P = true) {W W' : World} (hb : Below W.heap.size W W') :
    ∀ (ts : List TypeId) (vs : List Value) (ds : List (DataW H)) (ps : List MemPlace), (∀ t ∈ ts, P.readableRec t = true ∧ t < P.types.size) →
      DataW.TrodAll enc P W 0 (fun _ => true) true ts vs ds ps → (∀ x ∈ ps, x.block < W.heap.size) →
      DataW.TrodAll enc P W' 0 (fun b => decide (b < W.heap.size)) true ts vs ds ps
  | [], vs, ds, ps, _, h, _ => by
    obtain ⟨rfl, rfl, rfl⟩ := trodAll_nil h
    exact trodAll_mk0
  | t :: ts, vs, ds, ps, ht, h, hlt => by
    obtain ⟨v0, vs0, d0, ds0, p0, q0, rfl, rfl, rfl, h0, r0⟩ := trodAll_cons h
    have h1 := ht t (by simp)
    exact trodAll_cons_mk (Below.trod hl h1.1 h1.2 h0 hb (fun x hx => hlt x (by simp [hx])))
      (trodAll_below hl hb ts vs0 ds0 q0 (fun t' h' => ht t' (by simp [h'])) r0 (fun x hx => hlt x (by simp [hx])))
theorem trodAll_length {H : Type} {enc : TypeId × Value → H} {P : Program} {W : World} {b : Nat} {sp : Nat → Bool} {hd : Bool} :
    ∀ (ts : List TypeId) (vs : List Value) (ds : List (DataW H)) (ps : List MemPlace), DataW.TrodAll enc P W b sp hd ts vs ds ps → ds.length = ts.length
  | [], vs, ds, ps, h => by
    obtain ⟨rfl, rfl, rfl⟩ := trodAll_nil h
    rfl
  | t :: ts, vs, ds, ps, h => by
    obtain ⟨v0, vs0, d0, ds0, p0, q0, rfl, rfl, rfl, h0, r0⟩ := trodAll_cons h
    simp [trodAll_length ts vs0 ds0 q0 r0]
/-- the law's specification: true, and the input as it was -/
def LawSpec (s : ChangeSpec) (n : Nat) : Prop := s.vars = [] ∧ ∀ (H : Type) (ds : List (DataW H)), ds.length = n → s.fn H ds = { results := [.lit (.bool true)], args := ds }
theorem lift {os : Os} (started : os.Started) {H : Type} {enc : TypeId × Value → H} (f : FuncId) {fn : Func} {s : ChangeSpec} {conds : List PathCond} (hconds : conds = [])
    (noInit : Try.checked.prog.inits.idxOf? f = none) (hfn : Try.checked.prog.funcs[f]? = some fn) (hs : LawSpec s fn.params.toList.length) (hres : fn.resultTypes = #[4])
    (hts : ∀ t ∈ fn.params.toList, Try.prog.readableRec t = true ∧ t < Try.prog.types.size)
    (witness : ∃ (w : World) (tape : Tape) (i : Input), w.os = os ∧ (w.forCall tape i).Shaped Try.checked.prog ∧ i.vars = [] ∧ Input.okWide Try.checked.prog (w.forCall tape i) .any w.heap.size f i ∧
      s.pre6 enc Try.checked.prog fn conds false (w.forCall tape i).memory i.args ∧ Assume.holds {} Try.checked.prog (lone (Frame.enter Try.checked.prog f i.args .normal) [] (w.forCall tape i)))
    (walk : ∀ (W : World) (base : Nat) (args : Array Value) (ds : List (DataW H)) (ps : List MemPlace),
      (∀ (j : Nat) t v, fn.params[j]? = some t → args[j]? = some v → Value.okWide Try.prog W .any base t v) →
      DataW.TrodAll enc Try.prog W 0 (fun _ => true) true fn.params.toList args.toList ds ps → (∀ x ∈ ps, x.block < W.heap.size) → Calls Try.prog f args W (Yes W)) :
    ReturnsInHanded {} Try.checked os f .any (s.pre6 enc Try.prog fn conds false) (s.post enc Try.prog fn false true false false) := by
  subst hconds
  refine returnsInHanded_of_change (C := Try.checked) own started noInit hfn witness ?_
  intro W base args ds gs before hval hW _ _
  have hW' := hW
  have hlt : ∀ p ∈ before, p.block < W.heap.size := fun p hp => hW.lt p hp
  obtain ⟨p, q, hA, hV, hbef, hfz, hnd⟩ := hW
  rw [hs.1] at hV
  obtain ⟨rfl, rfl⟩ := trodVars_none hV
  rw [List.append_nil] at hbef
  subst hbef
  refine (walk W base args ds _ hval hA hlt).mono fun e W' ⟨he, bel⟩ => ?_
  subst he
  have hlen := trodAll_length _ _ _ _ hA
  have hfn' := hs.2 H ds hlen
  refine ⟨_, rfl, ?_⟩
  refine ⟨ds, [], before, [], before, [], hW', ?_, ?_, ?_, bel.frame _, fun h => by cases h⟩
  · rw [List.append_nil, hfn', hres]
    exact trodAll_mk1 (shut_bool Try.underlying4 _)
  · rw [List.append_nil, hfn']
    exact trodAll_below laidOut bel _ _ _ _ hts hA hlt
  · rw [List.append_nil, hfn', hs.1]; rfl
theorem block_lt {w : World} {a : Addr} {v : Value} (h : w.cell? a = some v) : a.block < w.heap.size := by
  rcases Nat.lt_or_ge a.block w.heap.size with h1 | h1
  · exact h1
  · simp [World.cell?, Array.getElem?_eq_none h1] at h
end Go.Proofs.Ytihbjnjpomljjaa
/- Laws for append onto a row of the call's own, whatever the source; and what is left of other rows. -/
namespace Go.Proofs.Ytihbjnjpomljjaa
set_option maxRecDepth 100000
open Go.RowKit
/-- behind an append: the new row; nothing but the old row, and what is new, has turned -/
structure Apped (w : World) (base : Nat) (e : TypeId) (size : Nat) (v : Value) (w' : World) (v' : Value) (n : Nat) (xs : List Value) : Prop where
  own : w'.ownsRow base e size v' n xs
  grown : w.grownBy w' v.ownBlock
  lies : v'.ownBlock = v.ownBlock ∨ v'.ownBlock = some w.heap.size
theorem own_base {w : World} {base : Nat} {e : TypeId} {size n : Nat} {v : Value} {xs : List Value} (h : w.ownsRow base e size v n xs) : ∀ g, v.ownBlock = some g → base ≤ g := by
  intro g hg
  rcases h.2 with ⟨rfl, _⟩ | ⟨g', cap, cur, rfl, hb, _⟩
  · simp [Value.ownBlock] at hg
  · simp [Value.ownBlock] at hg; omega
theorem own_lt {w : World} {base : Nat} {e : TypeId} {size n : Nat} {v : Value} {xs : List Value} (h : w.ownsRow base e size v n xs) : ∀ g, v.ownBlock = some g → g < w.heap.size := by
  intro g hg
  rcases h.2 with ⟨rfl, _⟩ | ⟨g', cap, cur, rfl, _, hh, _⟩
  · simp [Value.ownBlock] at hg
  · simp [Value.ownBlock] at hg
    subst hg
    rcases Nat.lt_or_ge g' w.heap.size with h1 | h1
    · exact h1
    · rw [Array.getElem?_eq_none h1] at hh; cases hh
theorem Apped.below {w w' : World} {base : Nat} {e : TypeId} {size n n0 : Nat} {v v' : Value} {xs xs0 : List Value} (h : Apped w base e size v w' v' n xs) (h0 : w.ownsRow base e size v n0 xs0) (hb : base ≤ w.heap.size) : Below base w w' :=
  (Below.refl _ _).grown h.grown hb (fun k hk => own_base h0 k hk)
/-- a row of the call's own, of some length, has its form; its cells read -/
theorem own_rd {w : World} {base : Nat} {e : TypeId} {size n : Nat} {v : Value} {xs : List Value} (h : w.ownsRow base e size v n xs) : ∃ A cap, v = .slice A n cap ∧ n ≤ cap ∧ cap ≤ maxLen ∧ Rd w w.heap.size A xs := by
  rcases h.2 with ⟨rfl, rfl⟩ | ⟨g, cap, cur, rfl, hb, hh, hn, hm, hc, ht⟩
  · exact ⟨none, 0, rfl, Nat.le_refl _, by simp [maxLen], fun hne => absurd (List.eq_nil_of_length_eq_zero (by simpa using h.1)) hne⟩
  · have hg : g < w.heap.size := by
      rcases Nat.lt_or_ge g w.heap.size with h1 | h1
      · exact h1
      · rw [Array.getElem?_eq_none h1] at hh; cases hh
    refine ⟨_, cap, rfl, hn, hm, fun _ => ⟨_, rfl, hg, fun j u hu => ?_⟩⟩
    have hj : j < n * size := by
      rcases Nat.lt_or_ge j (n * size) with h1 | h1
      · exact h1
      · rw [List.getElem?_eq_none (by rw [h.1]; exact h1)] at hu; cases hu
    have e1 : (Addr.add ⟨g, 0, none⟩ j) = ⟨g, j, none⟩ := by
      unfold Addr.add; split
      · subst_vars; rfl
      · simp
    rw [e1]
    refine cellOf hh ?_
    rw [← ht, List.getElem?_take_of_lt hj] at hu
    simpa using hu
section
variable {P : Program} (w : World)
theorem run_app_nil (base : Nat) (t ty e : TypeId) (i : TypeInfo) (size : Nat) (ht : P.underlying t = some (.slice e)) (hi : P.info? e = some i)
    (v : Value) (n : Nat) (xs : List Value) (hown : w.ownsRow base e size v n xs) (A : Option Addr) (c : Nat) (hA : A = none) : (Builtin.append_ #[t, t] ty #[v, .slice A 0 c]).run P w = .ok v w := by
  subst hA
  rcases hown.2 with ⟨rfl, rfl⟩ | ⟨g, cap, cur, rfl, _, _, hnc, _⟩
  · simp [Builtin.append_, run_underlying ht, sizeOf, typeInfo, hi, Builtin.lenOf, Builtin.firstCells]
  · simp [Builtin.append_, run_underlying ht, sizeOf, typeInfo, hi, Builtin.lenOf, Builtin.firstCells, hnc, storeCells]
theorem run_app (base : Nat) (t ty e : TypeId) (i : TypeInfo) (z : Value) (size bytes : Nat) (ht : P.underlying t = some (.slice e)) (hi : P.info? e = some i) (hz : i.zero = some z)
    (hsize : i.size = size) (hby : i.bytes = bytes) (hzs : z.cells.size = size) (hsz : 0 < size)
    (v : Value) (n : Nat) (xs : List Value) (hown : w.ownsRow base e size v n xs)
    (Bs : Nat) (A : Option Addr) (m c : Nat) (news : List Value) (hl : news.length = m * size) (hr : Rd w Bs A news) (h1 : ∀ u ∈ news, u.oneCell' = true)
    (hn : n + m ≤ 1000000000) (hbytes : (n + m) * bytes ≤ 140737488355328) (hbase : base ≤ w.heap.size) :
    ∃ v' w', (Builtin.append_ #[t, t] ty #[v, .slice A m c]).run P w = .ok v' w' ∧ Apped w base e size v w' v' (n + m) (xs ++ news) := by
  have h63 : n + m ≤ maxLen := by simp only [maxLen]; omega
  rcases Nat.eq_zero_or_pos m with h0 | h0
  · subst h0
    have hnil : news = [] := List.eq_nil_of_length_eq_zero (by simpa using hl)
    subst hnil
    rcases A with _ | ad
    · exact ⟨v, w, run_app_nil w base t ty e i size ht hi v n xs hown none c rfl, ⟨by simpa using hown, World.grownBy.refl w _, .inl rfl⟩⟩
    · obtain ⟨v', w', hrun, h2, h3, _, h5⟩ := run_append_own_at (P := P) w base t ty e i z size bytes ht hi hz hsize hby hzs hsz v n xs hown ad 0 c [] hl (fun j u hu => by simp at hu) h1 h63 hbytes hbase
      exact ⟨v', w', hrun, h2, h3, h5⟩
  · have hne : news ≠ [] := fun hnil => by
      rw [hnil] at hl
      have : 0 < m * size := Nat.mul_pos h0 hsz
      simp at hl; omega
    obtain ⟨ad, rfl, _, hc⟩ := hr hne
    obtain ⟨v', w', hrun, h2, h3, _, h5⟩ := run_append_own_at (P := P) w base t ty e i z size bytes ht hi hz hsize hby hzs hsz v n xs hown ad m c news hl hc h1 h63 hbytes hbase
    exact ⟨v', w', hrun, h2, h3, h5⟩
theorem wp_app {o : Oper} {a : Act} {K : Act → World → Prop} {Q : Exit → Act → World → Prop} (s x : Operand) (t : TypeId)
    (ho : o.op = .call { callee := .builtin .append, args := #[s, x], argTypes := #[t, t] })
    (base : Nat) (e : TypeId) (i : TypeInfo) (z : Value) (size bytes : Nat) (ht : P.underlying t = some (.slice e)) (hi : P.info? e = some i) (hz : i.zero = some z)
    (hsize : i.size = size) (hby : i.bytes = bytes) (hzs : z.cells.size = size) (hsz : 0 < size)
    (v : Value) (n : Nat) (xs : List Value) (hs : a.eval s = v) (hown : w.ownsRow base e size v n xs)
    (Bs : Nat) (A : Option Addr) (m c : Nat) (news : List Value) (hx : a.eval x = .slice A m c) (hl : news.length = m * size) (hr : Rd w Bs A news) (h1 : ∀ u ∈ news, u.oneCell' = true)
    (hn : n + m ≤ 1000000000) (hbytes : (n + m) * bytes ≤ 140737488355328) (hbase : base ≤ w.heap.size)
    (h : ∀ v' w', Apped w base e size v w' v' (n + m) (xs ++ news) → K (a.put o.dst v') w') : o.wp P a w K Q := by
  obtain ⟨v', w', hrun, h2⟩ := run_app (P := P) w base t o.type e i z size bytes ht hi hz hsize hby hzs hsz v n xs hown Bs A m c news hl hr h1 hn hbytes hbase
  unfold Oper.wp execOp
  simp only [ho, resolve, invoke, builtin, Sem.run_bind, Sem.run_pure, Result.andThen_ok, List.map_toArray, List.map_cons, List.map_nil, hs, hx, hrun]
  exact h v' w' h2
theorem wpList_app {ops : Array Oper} {rest : List Oper} {o : Oper} {a : Act} {Q : Exit → Act → World → Prop} (hw : Region.wanted o (yielded ops a.tmps) = true) (s x : Operand) (t : TypeId)
    (ho : o.op = .call { callee := .builtin .append, args := #[s, x], argTypes := #[t, t] })
    (base : Nat) (e : TypeId) (i : TypeInfo) (z : Value) (size bytes : Nat) (ht : P.underlying t = some (.slice e)) (hi : P.info? e = some i) (hz : i.zero = some z)
    (hsize : i.size = size) (hby : i.bytes = bytes) (hzs : z.cells.size = size) (hsz : 0 < size)
    (v : Value) (n : Nat) (xs : List Value) (hs : a.eval s = v) (hown : w.ownsRow base e size v n xs)
    (Bs : Nat) (A : Option Addr) (m c : Nat) (news : List Value) (hx : a.eval x = .slice A m c) (hl : news.length = m * size) (hr : Rd w Bs A news) (h1 : ∀ u ∈ news, u.oneCell' = true)
    (hn : n + m ≤ 1000000000) (hbytes : (n + m) * bytes ≤ 140737488355328) (hbase : base ≤ w.heap.size)
    (h : ∀ v' w', Apped w base e size v w' v' (n + m) (xs ++ news) → wpList P ops Q rest (a.put o.dst v') w') : wpList P ops Q (o :: rest) a w :=
  wpList_step fun K hK => by
    rw [if_pos hw]
    exact wp_app w s x t ho base e i z size bytes ht hi hz hsize hby hzs hsz v n xs hs hown Bs A m c news hx hl hr h1 hn hbytes hbase fun v' w' h2 => hK _ _ (h v' w' h2)
end
theorem byt_one (l : List Nat) : ∀ u ∈ byt l, u.oneCell' = true := by
  intro u hu
  obtain ⟨n, _, rfl⟩ := List.mem_map.1 hu
  rfl
theorem byt_app (l m : List Nat) : byt l ++ byt m = byt (l ++ m) := by simp [byt]
/-- bytes of the call's own -/
def OwnB (w : World) (base : Nat) (v : Value) (l : List Nat) : Prop := w.ownsRow base 5 1 v l.length (byt l)
theorem OwnB.nil_ (w : World) (base : Nat) : OwnB w base (.slice none 0 0) [] := ⟨rfl, .inl ⟨rfl, rfl⟩⟩
theorem OwnB.rd {w : World} {base : Nat} {v : Value} {l : List Nat} (h : OwnB w base v l) : ∃ A cap, v = .slice A l.length cap ∧ l.length ≤ cap ∧ cap ≤ maxLen ∧ Rd w w.heap.size A (byt l) := own_rd h
theorem OwnB.alloc {w : World} {base : Nat} {v : Value} {l : List Nat} (h : OwnB w base v l) (o : Obj) : OwnB (w.alloc o) base v l := World.ownsRow.alloc h o
theorem OwnB.drewN {w : World} {base : Nat} {v : Value} {l : List Nat} (h : OwnB w base v l) (n : Nat) : OwnB (w.drewN n) base v l := h
theorem OwnB.drew {w : World} {base : Nat} {v : Value} {l : List Nat} (h : OwnB w base v l) : OwnB w.drew base v l := h
theorem rd_new (w : World) (cs : List Value) (T : TypeId) (fz : Nat × Nat) : Rd (w.alloc (.cells cs.toArray T fz)) (w.heap.size + 1) (some ⟨w.heap.size, 0, none⟩) cs := fun _ =>
  ⟨_, rfl, Nat.lt_succ_self _, fun j u hu => by
    have e1 : (Addr.add ⟨w.heap.size, 0, none⟩ j) = ⟨w.heap.size, j, none⟩ := by
      unfold Addr.add; split
      · subst_vars; rfl
      · simp
    rw [e1]
    exact cellOf (heapNew w _) (by simpa using hu)⟩
theorem OwnB.snoc {w w' : World} {base : Nat} {v v' : Value} {l : List Nat} {c : Nat} (h : Apped w base 5 1 v w' v' (l.length + 1) (byt l ++ [.int .u8 (c : Int)])) : OwnB w' base v' (l ++ [c]) := by
  have := h.own
  unfold OwnB
  rw [List.length_append, ← byt_app]
  exact this
theorem OwnB.new (w : World) (base : Nat) (l : List Nat) (hb : base ≤ w.heap.size) (hm : l.length ≤ maxLen) : OwnB (w.alloc (.cells (byt l).toArray 5)) base (.slice (some ⟨w.heap.size, 0, none⟩) l.length l.length) l :=
  ⟨by simp [byt_len], .inr ⟨w.heap.size, l.length, _, rfl, hb, heapNew _ _, Nat.le_refl _, hm, by simp [byt_len], List.take_of_length_le (by simp [byt_len])⟩⟩
theorem OwnB.app {w w' : World} {base : Nat} {v v' : Value} {l m : List Nat} (h : Apped w base 5 1 v w' v' (l.length + m.length) (byt l ++ byt m)) : OwnB w' base v' (l ++ m) := by
  have := h.own
  unfold OwnB
  rw [List.length_append, ← byt_app]
  exact this
end Go.Proofs.Ytihbjnjpomljjaa
/- Which blocks a call may have turned; what stays of rows, blocks, slices elsewhere. -/
namespace Go.Proofs.Ytihbjnjpomljjaa
set_option maxRecDepth 100000
open Go.RowKit
/-- only blocks in S, and what is new, may have turned -/
structure Only (S : Nat → Prop) (w w' : World) : Prop where
  os : w'.os = w.os
  tape : w'.tape = w.tape
  output : w'.output = w.output
  size : w.heap.size ≤ w'.heap.size
  block : ∀ k, k < w.heap.size → ¬ S k → w'.heap[k]? = w.heap[k]?
section
variable {S T : Nat → Prop} {w w' w'' : World}
theorem Only.refl (S : Nat → Prop) (w : World) : Only S w w := ⟨rfl, rfl, rfl, Nat.le_refl _, fun _ _ _ => rfl⟩
theorem Only.trans (h : Only S w w') (k : Only S w' w'') : Only S w w'' :=
  ⟨k.os.trans h.os, k.tape.trans h.tape, k.output.trans h.output, Nat.le_trans h.size k.size, fun i hi hn => (k.block i (Nat.lt_of_lt_of_le hi h.size) hn).trans (h.block i hi hn)⟩
/-- what is new since w may have turned as well -/
theorem Only.then_ (h : Only S w w') (k : Only T w' w'') (hT : ∀ i, i < w.heap.size → T i → S i) : Only S w w'' :=
  ⟨k.os.trans h.os, k.tape.trans h.tape, k.output.trans h.output, Nat.le_trans h.size k.size, fun i hi hn => (k.block i (Nat.lt_of_lt_of_le hi h.size) (fun ht => hn (hT i hi ht))).trans (h.block i hi hn)⟩
theorem Only.mono (h : Only S w w') (hS : ∀ i, i < w.heap.size → S i → T i) : Only T w w' :=
  ⟨h.os, h.tape, h.output, h.size, fun i hi hn => h.block i hi (fun hs => hn (hS i hi hs))⟩
theorem Only.of_below (h : Below w.heap.size w w') : Only S w w' := ⟨h.os, h.tape, h.output, h.size, fun i hi _ => h.block i hi⟩
theorem Only.below {B : Nat} (h : Only S w w') (hS : ∀ i, S i → B ≤ i) (hB : B ≤ w.heap.size) : Below B w w' := ⟨h.os, h.tape, h.output, h.size, fun i hi => h.block i (by omega) (fun hs => by have := hS i hs; omega)⟩
theorem Only.of_grown {row : Option Nat} (h : w.grownBy w' row) (hS : ∀ i, row = some i → S i) : Only S w w' := ⟨h.os, h.tape, h.output, h.size, fun i hi hn => h.block i hi (fun e => hn (hS i e.symm))⟩
theorem Only.drew (h : Only S w w') : Only S w w'.drew := ⟨h.os, h.tape, h.output, h.size, h.block⟩
theorem Only.drewN (h : Only S w w') (n : Nat) : Only S w (w'.drewN n) := ⟨h.os, h.tape, h.output, h.size, h.block⟩
theorem Only.alloc (h : Only S w w') (o : Obj) : Only S w (w'.alloc o) :=
  ⟨h.os, h.tape, h.output, Nat.le_trans h.size (by simp), fun i hi hn => (Below.heap_alloc _ _ _ (Nat.lt_of_lt_of_le hi h.size)).trans (h.block i hi hn)⟩
theorem Only.setCell (h : Only S w w') {p : Addr} (hp : p.block < w.heap.size → S p.block) (u : Value) : Only S w (w'.setCell p u) :=
  ⟨h.os, h.tape, h.output, by rw [heapSize_set]; exact h.size, fun i hi hn => (Below.heap_setCell _ _ _ _ (fun e => hn (by subst e; exact hp hi))).trans (h.block i hi hn)⟩
theorem Only.cell (h : Only S w w') {a : Addr} {v : Value} (hc : w.cell? a = some v) (hn : ¬ S a.block) : w'.cell? a = some v := by
  have hlt : a.block < w.heap.size := by
    rcases Nat.lt_or_ge a.block w.heap.size with h1 | h1
    · exact h1
    · simp [World.cell?, Array.getElem?_eq_none h1] at hc
  exact (World.cell?_of_block (h.block _ hlt hn)).trans hc
theorem Only.rd {B : Nat} {A : Option Addr} {xs : List Value} (h : Only S w w') (hr : Rd w B A xs) (hn : ∀ a, A = some a → ¬ S a.block) : Rd w' B A xs := fun hne => by
  obtain ⟨ad, e, hb, hc⟩ := hr hne
  exact ⟨ad, e, hb, fun j u hu => h.cell (hc j u hu) (by rw [add_block]; exact hn ad e)⟩
/-- a block known whole -/
def Blk (w : World) (g : Nat) (t : TypeId) (cs : Array Value) : Prop := w.heap[g]? = some (.cells cs t (0, 0))
theorem Blk.lt {g : Nat} {t : TypeId} {cs : Array Value} (h : Blk w g t cs) : g < w.heap.size := by
  rcases Nat.lt_or_ge g w.heap.size with hlt | hge
  · exact hlt
  · unfold Blk at h; rw [Array.getElem?_eq_none hge] at h; cases h
theorem Blk.keep {g : Nat} {t : TypeId} {cs : Array Value} (h : Blk w g t cs) (ho : Only S w w') (hn : ¬ S g) : Blk w' g t cs := (ho.block g h.lt hn).trans h
theorem Blk.below {B g : Nat} {t : TypeId} {cs : Array Value} (h : Blk w g t cs) (hb : Below B w w') (hg : g < B) : Blk w' g t cs := (hb.block g hg).trans h
theorem Blk.alloc {g : Nat} {t : TypeId} {cs : Array Value} (h : Blk w g t cs) (o : Obj) : Blk (w.alloc o) g t cs := (Below.heap_alloc w o g h.lt).trans h
theorem Blk.far {g : Nat} {t : TypeId} {cs : Array Value} (h : Blk w g t cs) {p : Addr} (hp : g ≠ p.block) (u : Value) : Blk (w.setCell p u) g t cs := (Below.heap_setCell w p u g hp).trans h
theorem Blk.new (w : World) (t : TypeId) (cs : Array Value) : Blk (w.alloc (.cells cs t)) w.heap.size t cs := heapNew w _
theorem Blk.cell {g : Nat} {t : TypeId} {cs : Array Value} (h : Blk w g t cs) (i : Nat) : w.cell? ⟨g, i, none⟩ = cs[i]? := by
  unfold Blk at h; simp [World.cell?, h]
theorem Blk.free {g : Nat} {t : TypeId} {cs : Array Value} (h : Blk w g t cs) (i : Nat) : w.frozen? ⟨g, i, none⟩ = false := freeOf h
theorem Blk.set_ {g : Nat} {t : TypeId} {cs : Array Value} (h : Blk w g t cs) (i : Nat) (u : Value) : Blk (w.setCell ⟨g, i, none⟩ u) g t (cs.setIfInBounds i u) := heapSet u h
/-- a row of the call's own stays where it isn't turned -/
theorem own_keep {base : Nat} {e : TypeId} {size n : Nat} {v : Value} {xs : List Value} (h : w.ownsRow base e size v n xs) (ho : Only S w w') (hn : ∀ g, v.ownBlock = some g → ¬ S g) : w'.ownsRow base e size v n xs := by
  refine ⟨h.1, ?_⟩
  rcases h.2 with ⟨h1, h2⟩ | ⟨g, cap, cur, rfl, hb, hh, r⟩
  · exact .inl ⟨h1, h2⟩
  · have hg : g < w.heap.size := by
      rcases Nat.lt_or_ge g w.heap.size with h1 | h1
      · exact h1
      · rw [Array.getElem?_eq_none h1] at hh; cases hh
    exact .inr ⟨g, cap, cur, rfl, hb, (ho.block g hg (hn g rfl)).trans hh, r⟩
theorem own_alloc {base : Nat} {e : TypeId} {size n : Nat} {v : Value} {xs : List Value} (h : w.ownsRow base e size v n xs) (o : Obj) : (w.alloc o).ownsRow base e size v n xs :=
  own_keep (S := fun _ => False) h ((Only.refl _ _).alloc o) (fun _ _ h => h)
theorem Apped.only {base : Nat} {e : TypeId} {size n : Nat} {v v' : Value} {xs : List Value} (h : Apped w base e size v w' v' n xs) (hS : ∀ g, v.ownBlock = some g → S g) : Only S w w' := Only.of_grown h.grown hS
end
/-- one element's append: the element lies in a block of its own -/
theorem rd_one (w : World) (u : Value) (T : TypeId) : Rd (w.alloc (.cells #[u] T)) (w.heap.size + 1) (some ⟨w.heap.size, 0, none⟩) [u] := rd_new w [u] T (0, 0)
/-- numbers of a kind, as cells -/
def wrd (k : IntKind) (l : List Nat) : List Value := l.map fun (n : Nat) => Value.int k (n : Int)
theorem wrd_len (k : IntKind) (l : List Nat) : (wrd k l).length = l.length := by simp [wrd]
theorem wrd_at {k : IntKind} {l : List Nat} {i : Nat} (h : i < l.length) : (wrd k l)[i]? = some (.int k (l.getD i 0 : Nat)) := by
  simp [wrd, h, List.getD_eq_getElem?_getD]
theorem wrd_one (k : IntKind) (l : List Nat) : ∀ u ∈ wrd k l, u.oneCell' = true := by
  intro u hu
  obtain ⟨n, _, rfl⟩ := List.mem_map.1 hu
  rfl
theorem wrd_app (k : IntKind) (l m : List Nat) : wrd k l ++ wrd k m = wrd k (l ++ m) := by simp [wrd]
theorem Rd.word {w : World} {B : Nat} {A : Option Addr} {k : IntKind} {l : List Nat} (h : Rd w B A (wrd k l)) {i : Nat} (hi : i < l.length) :
    ∃ ad, A = some ad ∧ ad.block < B ∧ w.cell? (ad.add i) = some (.int k (l.getD i 0 : Nat)) := by
  obtain ⟨ad, e, hb, hc⟩ := h (fun h0 => by have := wrd_len k l; rw [h0] at this; simp at this; omega)
  exact ⟨ad, e, hb, hc i _ (wrd_at hi)⟩
/-- numbers in a row of the call's own -/
def OwnK (w : World) (base : Nat) (T : TypeId) (k : IntKind) (v : Value) (l : List Nat) : Prop := w.ownsRow base T 1 v l.length (wrd k l)
theorem OwnK.nil_ (w : World) (base : Nat) (T : TypeId) (k : IntKind) : OwnK w base T k (.slice none 0 0) [] := ⟨rfl, .inl ⟨rfl, rfl⟩⟩
theorem OwnK.rd {w : World} {base : Nat} {T : TypeId} {k : IntKind} {v : Value} {l : List Nat} (h : OwnK w base T k v l) : ∃ A cap, v = .slice A l.length cap ∧ l.length ≤ cap ∧ cap ≤ maxLen ∧ Rd w w.heap.size A (wrd k l) := own_rd h
theorem OwnK.snoc {w w' : World} {base : Nat} {T : TypeId} {k : IntKind} {v v' : Value} {l : List Nat} {c : Nat} (h : Apped w base T 1 v w' v' (l.length + 1) (wrd k l ++ [.int k (c : Int)])) : OwnK w' base T k v' (l ++ [c]) := by
  have := h.own
  unfold OwnK
  rw [List.length_append, ← wrd_app]
  exact this
end Go.Proofs.Ytihbjnjpomljjaa
/- '==' and '!=' on arrays of bytes. -/
namespace Go.Proofs.Ytihbjnjpomljjaa
set_option maxRecDepth 100000
open Go.RowKit
/-- bytes as an array's cells -/
def vb (l : List Nat) : Array Value := (byt l).toArray
theorem vb_size (l : List Nat) : (vb l).size = l.length := by simp [vb, byt_len]
section
variable {P : Program}
theorem keyLits_bytes {T e : TypeId} {n D : Nat} (ht : P.underlying T = some (.array n e)) (he : P.underlying e = some (.int .u8)) (hc : P.cellsOf T = n) (h1 : P.cellsOf e = 1) (l : List Nat) (hl : l.length = n) (hs : ∀ c ∈ l, c < 256) :
    P.keyLits (D + 2) T (byt l) = some (l.map fun (c : Nat) => Lit.int .u8 (c : Int)) := by
  have hm : ∀ (is : List Nat), (∀ i ∈ is, i < l.length) → (is.mapM fun i => P.keyLits (D + 1) e (((byt l).drop (i * 1)).take 1)) = some (is.map fun i => [Lit.int .u8 (l.getD i 0 : Nat)]) := by
    intro is
    induction is with
    | nil => intro _; rfl
    | cons i is ih =>
      intro h
      have hi := h i (by simp)
      have hk : P.keyLits (D + 1) e (((byt l).drop (i * 1)).take 1) = some [Lit.int .u8 (l.getD i 0 : Nat)] := by
        rw [Nat.mul_one, List.drop_eq_getElem_cons (by rw [byt_len]; exact hi)]
        have hg : (byt l)[i]'(by rw [byt_len]; exact hi) = .int .u8 (l.getD i 0 : Nat) := by
          have := byt_at hi
          rw [List.getElem?_eq_getElem (by rw [byt_len]; exact hi)] at this
          exact Option.some.inj this
        rw [hg]
        have hb := getD_lt hs i
        have hw : (Lit.int .u8 ((l.getD i 0 : Nat) : Int)).wf = true := WalkArith.wf_u8 ⟨by omega, by omega⟩
        simp only [List.take_succ_cons, List.take_zero, Program.keyLits, he]
        rw [if_pos (by first | exact hw | exact ⟨trivial, hw⟩)]
      rw [List.mapM_cons, hk, ih (fun j hj => h j (by simp [hj]))]
      rfl
  have hflat : ((List.range l.length).map fun i => [Lit.int .u8 ((l.getD i 0 : Nat) : Int)]).flatten = l.map fun (c : Nat) => Lit.int .u8 (c : Int) := by
    have : ∀ is : List Nat, (is.map fun i => [Lit.int .u8 ((l.getD i 0 : Nat) : Int)]).flatten = is.map fun i => Lit.int .u8 ((l.getD i 0 : Nat) : Int) := by
      intro is; induction is with
      | nil => rfl
      | cons i is ih => simp only [List.map_cons, List.flatten_cons, List.singleton_append, ih]
    rw [this]
    apply List.ext_getElem
    · simp
    · intro i h1 h2
      simp at h1
      simp [List.getD_eq_getElem?_getD, h1]
  have hstep : P.keyLits (D + 2) T (byt l) = if (byt l).length = P.cellsOf T then ((List.range n).mapM fun i => P.keyLits (D + 1) e (((byt l).drop (i * P.cellsOf e)).take (P.cellsOf e))).map List.flatten else none := by
    conv => lhs; unfold Program.keyLits
    rw [ht]
  rw [hstep, hc, h1, if_pos (by rw [byt_len]; exact hl), ← hl, hm _ (fun i hi => List.mem_range.1 hi), Option.map_some, hflat]
theorem lits_inj {l m : List Nat} (h : (l.map fun (c : Nat) => Lit.int .u8 (c : Int)) = m.map fun (c : Nat) => Lit.int .u8 (c : Int)) : l = m := by
  have hinj : ∀ a b : Nat, Lit.int .u8 (a : Int) = Lit.int .u8 (b : Int) → a = b := fun a b h => by injection h with _ h; omega
  induction l generalizing m with
  | nil => cases m with
    | nil => rfl
    | cons => simp at h
  | cons a l ih => cases m with
    | nil => simp at h
    | cons b m =>
      simp only [List.map_cons, List.cons.injEq] at h
      rw [hinj _ _ h.1, ih h.2]
/-- '==' on arrays of bytes -/
theorem run_equalIn_barr {T e : TypeId} {n : Nat} (ht : P.underlying T = some (.array n e)) (he : P.underlying e = some (.int .u8)) (hc : P.cellsOf T = n) (h1 : P.cellsOf e = 1)
    (l m : List Nat) (hl : l.length = n) (hm : m.length = n) (hs : ∀ c ∈ l, c < 256) (hs2 : ∀ c ∈ m, c < 256) (w : World) :
    (Op.equalIn 10000 T (.agg (vb l)) (.agg (vb m))).run P w = .ok (l == m) w := by
  have hk : P.keyTypeAt 2 T = true := by simp [Program.keyTypeAt, ht, he]
  have hf : ∀ k : List Nat, k.length = n → (Value.agg (vb k)).formed P T = true := fun k h => by simp [Value.formed, ht, hc, vb_size, h]
  obtain ⟨r, hr, hiff⟩ := run_equalIn_deep (P := P) 9998 2 T hk w 2 2 (.agg (vb l)) (.agg (vb m)) _ _ (hf l hl) (hf m hm)
    (by simpa [Value.cells, vb] using keyLits_bytes (D := 0) ht he hc h1 l hl hs) (by simpa [Value.cells, vb] using keyLits_bytes (D := 0) ht he hc h1 m hm hs2)
  rw [show 9998 + 2 = 10000 from rfl] at hr
  rw [hr]
  congr 1
  by_cases h : l = m
  · subst h; rw [hiff.2 rfl]; simp
  · have : r = false := by
      cases r with
      | true => exact absurd (lits_inj (hiff.1 rfl)) h
      | false => rfl
    rw [this]; simp [h]
end
end Go.Proofs.Ytihbjnjpomljjaa
/- Contracts of the small functions on bytes that everything calls: Same. -/
namespace Go.Proofs.Ytihbjnjpomljjaa
set_option maxRecDepth 100000
open Go.RowKit
theorem byteInfo : (Try.prog.info? 5).map (fun i => (i.zero, i.size, i.bytes)) = some (some (.int .u8 0), 1, 1) := by kernel_rfl
def Quietly (v : Value) (w : World) (e : Ending) (w' : World) : Prop := e = .returned v ∧ ∃ n, w' = w.drewN n
theorem quietly_below {w w' : World} {v : Value} {e : Ending} (h : Quietly v w e w') : e = .returned v ∧ Below w.heap.size w w' := by
  obtain ⟨h1, n, rfl⟩ := h
  exact ⟨h1, belowDrewN n (Below.refl _ _)⟩
theorem take_succ_eq {l m : List Nat} {k : Nat} (h1 : k < l.length) (h2 : k < m.length) : l.take (k + 1) = m.take (k + 1) ↔ l.take k = m.take k ∧ l.getD k 0 = m.getD k 0 := by
  rw [List.take_succ_eq_append_getElem h1, List.take_succ_eq_append_getElem h2, List.getD_eq_getElem?_getD, List.getD_eq_getElem?_getD, List.getElem?_eq_getElem h1, List.getElem?_eq_getElem h2]
  constructor
  · intro h
    have := List.append_inj h (by simp; omega)
    exact ⟨this.1, by simpa using this.2⟩
  · rintro ⟨h, h'⟩
    simp at h'
    rw [h, h']
theorem vb_set (l : List Nat) (i n : Nat) : (vb l).setIfInBounds i (.int .u8 (n : Int)) = vb (l.set i n) := by
  unfold vb byt
  rw [List.setIfInBounds_toArray]
  congr 1
  rw [List.map_set]
theorem made_bytes (n : Nat) : madeCells #[.int .u8 0] n = vb (List.replicate n 0) := by
  apply Array.toList_inj.1
  rw [toList_madeCells_one]
  simp [vb, byt]
theorem hide_ {p : Prop} (h : p) : Hid p := h
theorem unhide_ {p : Prop} (h : Hid p) : p := h
/-- lent bytes, with eight more behind them -/
def lent (l : List Nat) : List Nat := l ++ List.replicate 8 165
def lentTo (l : List Nat) (k : Nat) : List Nat := (lent l).take k ++ List.replicate (l.length + 8 - k) 0
theorem lent_len (l : List Nat) : (lent l).length = l.length + 8 := by simp [lent]
theorem lentTo_set (l : List Nat) (k : Nat) (h : k < l.length + 8) : (lentTo l k).set k ((lent l).getD k 0) = lentTo l (k + 1) := by
  have hk : k < (lent l).length := by rw [lent_len]; exact h
  unfold lentTo
  rw [List.take_succ_eq_append_getElem hk, List.getD_eq_getElem?_getD, List.getElem?_eq_getElem hk, show l.length + 8 - k = (l.length + 8 - (k + 1)) + 1 by omega, List.replicate_succ]
  rw [List.set_append, if_neg (by rw [List.length_take]; omega)]
  rw [List.length_take, Nat.min_eq_left (by omega), Nat.sub_self, List.set_cons_zero, List.append_assoc, List.singleton_append, Option.getD_some]
theorem lentTo_all (l : List Nat) : lentTo l (l.length + 8) = lent l := by
  unfold lentTo
  rw [List.take_of_length_le (by rw [lent_len]; exact Nat.le_refl _)]; simp
theorem lent_at {l : List Nat} {k : Nat} (h : k < l.length) : (lent l).getD k 0 = l.getD k 0 := by
  simp [lent, List.getD_eq_getElem?_getD, List.getElem?_append, h]
theorem lent_far {l : List Nat} {k : Nat} (h : l.length ≤ k) (h2 : k < l.length + 8) : (lent l).getD k 0 = 165 := by
  rw [List.getD_eq_getElem?_getD, lent, List.getElem?_append_right h, List.getElem?_replicate, if_pos (by omega)]
  rfl
theorem lent_lt {l : List Nat} (h : ∀ c ∈ l, c < 256) : ∀ c ∈ lent l, c < 256 := fun c hc => by
  rcases List.mem_append.1 hc with hc | hc
  · exact h c hc
  · rw [List.eq_of_mem_replicate hc]; omega
/-- the block that lent bytes lie in -/
def LentAt (w : World) (g : Nat) (l : List Nat) : Prop := Blk w g 5 (vb (lent l))
theorem rd_blk {w : World} {g : Nat} {T : TypeId} {cs : Array Value} (h : Blk w g T cs) (xs : List Value) (n : Nat) (hx : xs = cs.toList.take n) : Rd w (g + 1) (some ⟨g, 0, none⟩) xs := fun _ =>
  ⟨_, rfl, Nat.lt_succ_self _, fun j u hu => by
    have e1 : (Addr.add ⟨g, 0, none⟩ j) = ⟨g, j, none⟩ := by
      unfold Addr.add; split
      · subst_vars; rfl
      · simp
    rw [e1, h.cell]
    rw [hx] at hu
    have hj : j < n := by
      rcases Nat.lt_or_ge j n with h1 | h1
      · exact h1
      · rw [List.getElem?_eq_none (by rw [List.length_take]; omega)] at hu; cases hu
    rw [List.getElem?_take_of_lt hj] at hu
    simpa using hu⟩
theorem LentAt.rd {w : World} {g : Nat} {l : List Nat} (h : LentAt w g l) : Rd w (g + 1) (some ⟨g, 0, none⟩) (byt l) :=
  rd_blk h (byt l) l.length (by simp [vb, lent, byt])
end Go.Proofs.Ytihbjnjpomljjaa
/- Common: forms of numbers, rows of bytes. -/
namespace Go.Proofs.Ytihbjnjpomljjaa
set_option maxRecDepth 100000
open Go.RowKit
set_option linter.unusedVariables false
set_option linter.unusedSimpArgs false
theorem cell_lt {w : World} {a : Addr} {v : Value} (h : w.cell? a = some v) : a.block < w.heap.size := by
  rcases Nat.lt_or_ge a.block w.heap.size with h1 | h1
  · exact h1
  · simp [World.cell?, Array.getElem?_eq_none h1] at h
theorem Rd.ext {w w' : World} {B : Nat} {A : Option Addr} {xs : List Value} (h : Rd w B A xs) (hb : Below w.heap.size w w') : Rd w' B A xs := fun hn => by
  obtain ⟨ad, e, hab, hc⟩ := h hn
  exact ⟨ad, e, hab, fun j u hu => (hb.cell (cell_lt (hc j u hu))).trans (hc j u hu)⟩
theorem Rd.none_nil {w : World} {B : Nat} {xs : List Value} (h : Rd w B none xs) : xs = [] := by
  by_cases hn : xs = []
  · exact hn
  · obtain ⟨_, e, _⟩ := h hn; cases e
/-- what a call hands back: bytes of its own -/
def Gives (l : List Nat) (w : World) (e : Ending) (w' : World) : Prop := ∃ v, e = .returned v ∧ OwnB w' w.heap.size v l ∧ Below w.heap.size w w'
/-- a number's bytes, the lowest first -/
def form : Nat → Nat → List Nat
  | _, 0 => []
  | n, w + 1 => n % 256 :: form (n / 256) w
theorem form_len (n w : Nat) : (form n w).length = w := by
  induction w generalizing n with
  | zero => rfl
  | succ w ih => simp [form, ih]
theorem form_lt (n w : Nat) : ∀ c ∈ form n w, c < 256 := by
  induction w generalizing n with
  | zero => simp [form]
  | succ w ih =>
    intro c hc
    rcases List.mem_cons.1 hc with rfl | hc
    · exact Nat.mod_lt _ (by decide)
    · exact ih _ c hc
theorem form_succ (n w : Nat) : form n (w + 1) = form n w ++ [n / 256 ^ w % 256] := by
  induction w generalizing n with
  | zero => simp [form]
  | succ w ih =>
    rw [form, ih (n / 256), form, List.cons_append, Nat.div_div_eq_div_mul, Nat.pow_succ']
def number : List Nat → Nat
  | [] => 0
  | c :: l => number l * 256 + c
theorem number_lt : ∀ l : List Nat, (∀ c ∈ l, c < 256) → number l < 256 ^ l.length
  | [], _ => by simp [number]
  | c :: l, h => by
    have h1 := number_lt l (fun c hc => h c (by simp [hc]))
    have h2 := h c (by simp)
    rw [number, List.length_cons, Nat.pow_succ]
    omega
theorem form_number : ∀ l : List Nat, (∀ c ∈ l, c < 256) → form (number l) l.length = l
  | [], _ => rfl
  | c :: l, h => by
    have h2 := h c (by simp)
    rw [List.length_cons, form, number, show (number l * 256 + c) % 256 = c by omega, show (number l * 256 + c) / 256 = number l by omega, form_number l (fun c hc => h c (by simp [hc]))]
theorem number_form (n w : Nat) (h : n < 256 ^ w) : number (form n w) = n := by
  induction w generalizing n with
  | zero => simp at h; subst h; rfl
  | succ w ih =>
    rw [form, number, ih (n / 256) (by rw [Nat.pow_succ] at h; omega)]
    omega
theorem number_drop {l : List Nat} {j : Nat} (hj : j < l.length) : number (l.drop j) = number (l.drop (j + 1)) * 256 + l.getD j 0 := by
  rw [List.drop_eq_getElem_cons hj, List.getD_eq_getElem?_getD, List.getElem?_eq_getElem hj]; rfl
theorem OwnB.open_ {w : World} {base : Nat} {v : Value} {l : List Nat} (h : OwnB w base v l) (hne : l ≠ []) : ∃ g cap rest, v = .slice (some ⟨g, 0, none⟩) l.length cap ∧ base ≤ g ∧ Blk w g 5 (byt l ++ rest).toArray ∧ l.length ≤ cap ∧ cap ≤ maxLen ∧ rest.length + l.length = cap := by
  rcases h.2 with ⟨_, h0⟩ | ⟨g, cap, cur, rfl, hb, hh, hn, hm, hc, ht⟩
  · exact absurd (List.eq_nil_of_length_eq_zero h0) hne
  · refine ⟨g, cap, cur.toList.drop l.length, rfl, hb, ?_, hn, hm, ?_⟩
    · rw [Nat.mul_one] at ht
      unfold Blk
      rw [hh, ← ht, List.take_append_drop]
    · rw [List.length_drop, Array.length_toList, hc]; omega
theorem OwnB.next {w w' : World} {base : Nat} {v : Value} {l : List Nat} (h : OwnB w base v l) (hb : Below w.heap.size w w') : OwnB w' base v l := own_keep (S := fun _ => False) h (Only.of_below hb) (fun _ _ h => h)
theorem vb_at (l : List Nat) (i : Nat) (h : i < l.length) : (vb l)[i]? = some (.int .u8 (l.getD i 0 : Nat)) := by
  simp [vb, byt, List.getD_eq_getElem?_getD, h]
theorem vb_one (l : List Nat) : (vb l).all (·.oneCell') = true := by
  simp [vb, byt, Value.oneCell']
theorem own_base_le {w : World} {base base' : Nat} {e : TypeId} {size n : Nat} {v : Value} {xs : List Value} (h : w.ownsRow base e size v n xs) (hb : base' ≤ base) : w.ownsRow base' e size v n xs :=
  ⟨h.1, h.2.elim Or.inl (fun ⟨g, cap, cur, hv, hg, r⟩ => Or.inr ⟨g, cap, cur, hv, Nat.le_trans hb hg, r⟩)⟩
theorem range_of_rd {w : World} {B g : Nat} {l : List Nat} (h : Rd w B (some ⟨g, 0, none⟩) (byt l)) (hne : l ≠ []) : w.rangeAt g 0 (byt l) := by
  obtain ⟨ad, e, hb, hc⟩ := h (by intro h0; have := congrArg List.length h0; rw [byt_len] at this; exact hne (List.eq_nil_of_length_eq_zero this))
  injection e with e
  subst e
  intro j u hu
  have := hc j u hu
  rwa [Addr.add_mid] at this
theorem below_row {n g : Nat} {w W : World} (h : Below n w W) (hn : n ≤ g) (cs : Array Value) : Below n w (W.setRow g cs) :=
  h.trans ⟨rfl, rfl, rfl, by simp [World.setRow], fun i hi => setRow_other _ _ i _ (by omega)⟩
theorem rangeAt_blk {w : World} {g : Nat} {T : TypeId} {cs : Array Value} (h : Blk w g T cs) : w.rangeAt g 0 cs.toList := fun i u hu => by
  rw [Nat.zero_add, h.cell i]
  simpa using hu
end Go.Proofs.Ytihbjnjpomljjaa
/- Pieces, as bytes: plain. -/
namespace Go.Proofs.Ytihbjnjpomljjaa
set_option maxRecDepth 100000
open Go.RowKit
set_option linter.unusedVariables false
set_option linter.unusedSimpArgs false
/-- int64's wrap -/
def w64 (x : Int) : Int := (x + 9223372036854775808) % 18446744073709551616 - 9223372036854775808
theorem w64_lo (x : Int) : -9223372036854775808 ≤ w64 x := by unfold w64; omega
theorem w64_hi (x : Int) : w64 x ≤ 9223372036854775807 := by unfold w64; omega
theorem w64_in (x : Int) (h0 : -9223372036854775808 ≤ x) (h1 : x ≤ 9223372036854775807) : w64 x = x := by unfold w64; omega
theorem w64_add (a b : Int) : w64 (w64 a + b) = w64 (a + b) := by unfold w64; omega
theorem w64_add' (a b : Int) : w64 (a + w64 b) = w64 (a + b) := by unfold w64; omega
theorem w64_sub (a b : Int) : w64 (w64 a - b) = w64 (a - b) := by unfold w64; omega
theorem w64_sub' (a b : Int) : w64 (a - w64 b) = w64 (a - b) := by unfold w64; omega
structure Pc where
  s : ByteArray
  t : Int
  v : Int
  n : Nat
  d : Nat
structure PcOk (p : Pc) : Prop where
  t0 : -9223372036854775808 ≤ p.t
  t1 : p.t ≤ 9223372036854775807
  v0 : -9223372036854775808 ≤ p.v
  v1 : p.v ≤ 9223372036854775807
  n1 : p.n < 18446744073709551616
  d1 : p.d < 65536
/-- a text's bytes -/
def sby (s : ByteArray) : List Nat := s.toList.map (·.toNat)
theorem sby_lt (s : ByteArray) : ∀ c ∈ sby s, c < 256 := fun c h => by
  obtain ⟨u, _, rfl⟩ := List.mem_map.1 h
  exact u.toNat_lt
/-- the short form -/
def sh (n : Nat) : List Nat := if h : n < 128 then [n] else (n % 128 + 128) :: sh (n / 128)
termination_by n
decreasing_by omega
theorem sh_lt (n : Nat) : ∀ c ∈ sh n, c < 256 := by
  induction n using Nat.strongRecOn with
  | ind n ih =>
    intro c hc
    rw [sh] at hc
    split at hc
    · simp at hc; omega
    · rcases List.mem_cons.1 hc with rfl | h
      · omega
      · exact ih (n / 128) (by omega) c h
def zig (n : Int) : Nat := if 0 ≤ n then (2 * n).toNat else (-2 * n - 1).toNat
def zag (n : Nat) : Int := if n % 2 = 0 then ((n / 2 : Nat) : Int) else -((n / 2 : Nat) : Int) - 1
theorem zag_zig (n : Int) : zag (zig n) = n := by unfold zig zag; split <;> split <;> omega
theorem zig_lt (n : Int) (h0 : -9223372036854775808 ≤ n) (h1 : n ≤ 9223372036854775807) : zig n < 18446744073709551616 := by unfold zig; split <;> omega
/-- the rows of a series -/
def rowsL (t step v : Int) : List Pc → List Nat
  | [] => []
  | p :: l => sh (zig (w64 (w64 (p.t - t) - step))) ++ sh (zig (w64 (p.v - v))) ++ sh p.n ++ form p.d 2 ++ rowsL p.t (w64 (p.t - t)) p.v l
/-- how many pieces are of the first one's series -/
def run1 (s : ByteArray) : List Pc → Nat
  | [] => 0
  | p :: l => if p.s = s then run1 s l + 1 else 0
theorem run1_le (s : ByteArray) : ∀ l : List Pc, run1 s l ≤ l.length
  | [] => Nat.le_refl _
  | p :: l => by
    unfold run1
    split
    · have := run1_le s l; simp; omega
    · omega
/-- a series' pieces, laid -/
def putL (g : List Pc) : List Nat :=
  match g with
  | [] => []
  | p :: _ => sh p.s.size ++ sby p.s ++ sh g.length ++ rowsL 0 0 0 g
/-- the lengths of the groups -/
def gls : List Pc → List Nat
  | [] => []
  | p :: l => (run1 p.s l + 1) :: gls (l.drop (run1 p.s l))
termination_by l => l.length
decreasing_by simp; omega
theorem gls_cons (p : Pc) (l : List Pc) : gls (p :: l) = (run1 p.s l + 1) :: gls (l.drop (run1 p.s l)) := by rw [gls]
theorem gls_nil : gls [] = [] := by rw [gls]
/-- the groups themselves -/
def cutsL : List Nat → List Pc → List (List Pc)
  | [], _ => []
  | n :: ns, l => l.take n :: cutsL ns (l.drop n)
def grps (l : List Pc) : List (List Pc) := cutsL (gls l) l
def formP (l : List Pc) : List Nat := sh (grps l).length ++ ((grps l).map putL).flatten
def roomG : List (List Pc) → Nat
  | [] => 0
  | g :: gs => (match g with | [] => 0 | p :: _ => 6 + p.s.size) + roomG gs
def roomL (l : List Pc) : Nat := 4 + 32 * l.length + roomG (grps l)
end Go.Proofs.Ytihbjnjpomljjaa
/- Pieces, read: plain. -/
namespace Go.Proofs.Ytihbjnjpomljjaa
set_option maxRecDepth 100000
open Go.RowKit
set_option linter.unusedVariables false
set_option linter.unusedSimpArgs false
/-- a short form, read: the number, how many bytes, the error -/
def gsF (i acc : Nat) : List Nat → Nat × Nat × Nat
  | [] => (0, 0, 2)
  | c :: b => if i = 9 ∧ 1 < c then (0, 0, 4) else if 128 ≤ c then gsF (i + 1) (acc + c % 128 * 128 ^ i) b else if c = 0 ∧ 0 < i then (0, 0, 4) else (acc + c % 128 * 128 ^ i, i + 1, 0)
theorem gsF_used (b : List Nat) : ∀ i acc, (gsF i acc b).2.1 ≤ i + b.length := by
  induction b with
  | nil => intro i acc; simp [gsF]
  | cons c b ih =>
    intro i acc
    rw [gsF]
    split
    · simp
    · split
      · have := ih (i + 1) (acc + c % 128 * 128 ^ i)
        rw [List.length_cons]
        omega
      · split
        · exact Nat.zero_le _
        · rw [List.length_cons]
          show i + 1 ≤ _
          omega
/-- without an error at least one byte is read -/
theorem gsF_pos (b : List Nat) : ∀ i acc, (gsF i acc b).2.2 = 0 → i + 1 ≤ (gsF i acc b).2.1 := by
  induction b with
  | nil => intro i acc h; simp [gsF] at h
  | cons c b ih =>
    intro i acc h
    rw [gsF] at h ⊢
    split
    · rename_i h1; rw [if_pos h1] at h; simp at h
    · rename_i h1; rw [if_neg h1] at h
      split
      · rename_i h2; rw [if_pos h2] at h; have := ih _ _ h; omega
      · rename_i h2; rw [if_neg h2] at h
        split
        · rename_i h3; rw [if_pos h3] at h; simp at h
        · exact Nat.le_refl _
theorem gsF_err (b : List Nat) : ∀ i acc, (gsF i acc b).2.2 ≤ 4 := by
  induction b with
  | nil => intro i acc; simp [gsF]
  | cons c b ih =>
    intro i acc
    rw [gsF]
    split
    · simp
    · split
      · exact ih _ _
      · split <;> simp
theorem gsF_lt (b : List Nat) (hb : ∀ c ∈ b, c < 256) : ∀ i acc, i ≤ 9 → acc < 128 ^ i → (gsF i acc b).1 < 18446744073709551616 := by
  induction b with
  | nil => intro i acc _ _; simp [gsF]
  | cons c b ih =>
    intro i acc hi ha
    have hc := hb c (by simp)
    rw [gsF]
    split
    · simp
    · rename_i h1
      split
      · rename_i h2
        have hi9 : i < 9 := by
          rcases Nat.lt_or_ge i 9 with h | h
          · exact h
          · exact absurd ⟨by omega, by omega⟩ h1
        refine ih (fun c h => hb c (by simp [h])) _ _ (by omega) ?_
        have h3 : c % 128 < 128 := Nat.mod_lt _ (by decide)
        have h4 : (c % 128 + 1) * 128 ^ i ≤ 128 * 128 ^ i := Nat.mul_le_mul_right _ h3
        rw [Nat.add_mul, Nat.one_mul] at h4
        rw [Nat.pow_succ, Nat.mul_comm (128 ^ i)]
        omega
      · rename_i h2
        split
        · simp
        · have h3 : c % 128 = c := by omega
          rw [h3]
          rcases Nat.lt_or_ge i 9 with h | h
          · have h4 : (c + 1) * 128 ^ i ≤ 128 * 128 ^ i := Nat.mul_le_mul_right _ (by omega)
            rw [Nat.add_mul, Nat.one_mul] at h4
            have h5 : 128 * 128 ^ i ≤ 128 * 128 ^ 8 := Nat.mul_le_mul_left _ (Nat.pow_le_pow_right (by decide) (by omega))
            simp only
            omega
          · have : i = 9 := by omega
            subst this
            have hc1 : c ≤ 1 := by
              rcases Nat.lt_or_ge 1 c with h | h
              · exact absurd ⟨rfl, h⟩ h1
              · exact h
            have h4 : c * 128 ^ 9 ≤ 1 * 128 ^ 9 := Nat.mul_le_mul_right _ hc1
            simp only
            omega
theorem gsF_sh (n : Nat) : ∀ i acc rest, n * 128 ^ i < 18446744073709551616 → (n = 0 → i = 0) → gsF i acc (sh n ++ rest) = (acc + n * 128 ^ i, i + (sh n).length, 0) := by
  induction n using Nat.strongRecOn with
  | ind n ih =>
    intro i acc rest h h0
    rw [sh]
    split
    · rename_i hlt
      rw [List.cons_append, List.nil_append, gsF]
      have h9 : ¬ (i = 9 ∧ 1 < n) := by
        rintro ⟨rfl, h1⟩
        have : 2 * 128 ^ 9 ≤ n * 128 ^ 9 := Nat.mul_le_mul_right _ h1
        omega
      rw [if_neg h9, if_neg (by omega), if_neg (by omega), Nat.mod_eq_of_lt hlt]
      rfl
    · rename_i hge
      rw [List.cons_append, gsF]
      have hi : i ≤ 8 := by
        rcases Nat.lt_or_ge 8 i with h1 | h1
        · have h2 : 128 * 128 ^ 9 ≤ n * 128 ^ i := Nat.mul_le_mul (by omega) (Nat.pow_le_pow_right (by decide) h1)
          omega
        · exact h1
      rw [if_neg (by omega), if_pos (by omega)]
      have e1 : n / 128 * 128 ^ (i + 1) + n % 128 * 128 ^ i = n * 128 ^ i := by
        rw [Nat.pow_succ, Nat.mul_comm (128 ^ i) 128, ← Nat.mul_assoc, ← Nat.add_mul]
        congr 1
        omega
      rw [ih (n / 128) (by omega) (i + 1) _ rest (by omega) (by omega), show (n % 128 + 128) % 128 = n % 128 by omega]
      simp only [List.length_cons, Prod.mk.injEq, and_true]
      omega
/-- read a number: the number, what is left, whether all was in form -/
def rdS (b : List Nat) (bad : Bool) : Nat × List Nat × Bool := ((gsF 0 0 b).1, b.drop (gsF 0 0 b).2.1, bad || decide ((gsF 0 0 b).2.2 ≠ 0))
def rdB (n : Nat) (b : List Nat) (bad : Bool) : List Nat × List Nat × Bool := if b.length < n then ([], b, true) else (b.take n, b.drop n, bad)
theorem rdS_sh (n : Nat) (rest : List Nat) (h : n < 18446744073709551616) : rdS (sh n ++ rest) false = (n, rest, false) := by
  unfold rdS
  rw [gsF_sh n 0 0 rest (by simpa using h) (fun _ => rfl)]
  simp
theorem rdB_app (l rest : List Nat) (bad : Bool) : rdB l.length (l ++ rest) bad = (l, rest, bad) := by
  unfold rdB
  rw [if_neg (by simp)]
  simp
def rpL (s : ByteArray) : Nat → List Nat → Bool → Int → Int → Int → List Pc → List Pc × List Nat × Bool
  | 0, b, bad, t, step, v, acc => (acc, b, bad)
  | i + 1, b, bad, t, step, v, acc =>
    if (rdB 2 (rdS (rdS (rdS b bad).2.1 (rdS b bad).2.2).2.1 (rdS (rdS b bad).2.1 (rdS b bad).2.2).2.2).2.1 (rdS (rdS (rdS b bad).2.1 (rdS b bad).2.2).2.1 (rdS (rdS b bad).2.1 (rdS b bad).2.2).2.2).2.2).2.2 then
      (acc, (rdB 2 (rdS (rdS (rdS b bad).2.1 (rdS b bad).2.2).2.1 (rdS (rdS b bad).2.1 (rdS b bad).2.2).2.2).2.1 (rdS (rdS (rdS b bad).2.1 (rdS b bad).2.2).2.1 (rdS (rdS b bad).2.1 (rdS b bad).2.2).2.2).2.2).2.1, true)
    else
      rpL s i (rdB 2 (rdS (rdS (rdS b bad).2.1 (rdS b bad).2.2).2.1 (rdS (rdS b bad).2.1 (rdS b bad).2.2).2.2).2.1 (rdS (rdS (rdS b bad).2.1 (rdS b bad).2.2).2.1 (rdS (rdS b bad).2.1 (rdS b bad).2.2).2.2).2.2).2.1 false
        (w64 (t + w64 (step + zag (rdS b bad).1))) (w64 (step + zag (rdS b bad).1)) (w64 (v + zag (rdS (rdS b bad).2.1 (rdS b bad).2.2).1))
        (acc ++ [⟨s, w64 (t + w64 (step + zag (rdS b bad).1)), w64 (v + zag (rdS (rdS b bad).2.1 (rdS b bad).2.2).1), (rdS (rdS (rdS b bad).2.1 (rdS b bad).2.2).2.1 (rdS (rdS b bad).2.1 (rdS b bad).2.2).2.2).1,
          number (rdB 2 (rdS (rdS (rdS b bad).2.1 (rdS b bad).2.2).2.1 (rdS (rdS b bad).2.1 (rdS b bad).2.2).2.2).2.1 (rdS (rdS (rdS b bad).2.1 (rdS b bad).2.2).2.1 (rdS (rdS b bad).2.1 (rdS b bad).2.2).2.2).2.2).1⟩])
/-- a round, spelt by its steps -/
theorem rpL_step (s : ByteArray) (i : Nat) (b : List Nat) (bad : Bool) (t step v : Int) (acc : List Pc) {n1 n2 n3 : Nat} {b1 b2 b3 b4 l4 : List Nat} {x1 x2 x3 x4 : Bool}
    (h1 : rdS b bad = (n1, b1, x1)) (h2 : rdS b1 x1 = (n2, b2, x2)) (h3 : rdS b2 x2 = (n3, b3, x3)) (h4 : rdB 2 b3 x3 = (l4, b4, x4)) :
    rpL s (i + 1) b bad t step v acc = if x4 then (acc, b4, true) else rpL s i b4 false (w64 (t + w64 (step + zag n1))) (w64 (step + zag n1)) (w64 (v + zag n2)) (acc ++ [⟨s, w64 (t + w64 (step + zag n1)), w64 (v + zag n2), n3, number l4⟩]) := by
  rw [rpL]
  simp only [h1, h2, h3, h4]
def rsL (b : List Nat) (bad : Bool) : List Pc × List Nat × Bool :=
  rpL ⟨((rdB (rdS b bad).1 (rdS b bad).2.1 (rdS b bad).2.2).1.map UInt8.ofNat).toArray⟩ (rdS (rdB (rdS b bad).1 (rdS b bad).2.1 (rdS b bad).2.2).2.1 (rdB (rdS b bad).1 (rdS b bad).2.1 (rdS b bad).2.2).2.2).1
    (rdS (rdB (rdS b bad).1 (rdS b bad).2.1 (rdS b bad).2.2).2.1 (rdB (rdS b bad).1 (rdS b bad).2.1 (rdS b bad).2.2).2.2).2.1 (rdS (rdB (rdS b bad).1 (rdS b bad).2.1 (rdS b bad).2.2).2.1 (rdB (rdS b bad).1 (rdS b bad).2.1 (rdS b bad).2.2).2.2).2.2 0 0 0 []
theorem rsL_eq (b : List Nat) (bad : Bool) {n1 n3 : Nat} {b1 b2 b3 l2 : List Nat} {x1 x2 x3 : Bool} (h1 : rdS b bad = (n1, b1, x1)) (h2 : rdB n1 b1 x1 = (l2, b2, x2)) (h3 : rdS b2 x2 = (n3, b3, x3)) :
    rsL b bad = rpL ⟨(l2.map UInt8.ofNat).toArray⟩ n3 b3 x3 0 0 0 [] := by
  unfold rsL
  simp only [h1, h2, h3]
def rgL : Nat → List Nat → Bool → List Pc → List Pc × Bool
  | 0, b, bad, acc => (acc, bad)
  | i + 1, b, bad, acc => if (rsL b bad).2.2 then (acc ++ (rsL b bad).1, true) else rgL i (rsL b bad).2.1 false (acc ++ (rsL b bad).1)
theorem rpL_rows (s : ByteArray) (g : List Pc) : ∀ (t step v : Int) (acc : List Pc) (rest : List Nat), (∀ p ∈ g, PcOk p ∧ p.s = s) → -9223372036854775808 ≤ t → t ≤ 9223372036854775807 → -9223372036854775808 ≤ v → v ≤ 9223372036854775807 →
    rpL s g.length (rowsL t step v g ++ rest) false t step v acc = (acc ++ g, rest, false) := by
  induction g with
  | nil => intro t step v acc rest _ _ _ _ _; simp [rpL, rowsL]
  | cons p g ih =>
    intro t step v acc rest h t0 t1 v0 v1
    obtain ⟨hp, hs⟩ := h p (by simp)
    have hz1 := zig_lt (w64 (w64 (p.t - t) - step)) (w64_lo _) (w64_hi _)
    have hz2 := zig_lt (w64 (p.v - v)) (w64_lo _) (w64_hi _)
    rw [List.length_cons, rowsL]
    simp only [List.append_assoc]
    have h4 := rdB_app (form p.d 2) (rowsL p.t (w64 (p.t - t)) p.v g ++ rest) false
    rw [form_len] at h4
    rw [rpL_step s g.length _ false t step v acc (rdS_sh _ _ hz1) (rdS_sh _ _ hz2) (rdS_sh _ _ hp.n1) h4]
    simp only [zag_zig, Bool.false_eq_true, if_false]
    rw [number_form p.d 2 hp.d1]
    have e1 : w64 (step + w64 (w64 (p.t - t) - step)) = w64 (p.t - t) := by unfold w64; omega
    have e2 : w64 (t + w64 (p.t - t)) = p.t := by have := hp.t0; have := hp.t1; unfold w64; omega
    have e3 : w64 (v + w64 (p.v - v)) = p.v := by have := hp.v0; have := hp.v1; unfold w64; omega
    rw [e1, e2, e3, ih p.t (w64 (p.t - t)) p.v _ rest (fun q hq => h q (by simp [hq])) hp.t0 hp.t1 hp.v0 hp.v1]
    have e4 : (⟨s, p.t, p.v, p.n, p.d⟩ : Pc) = p := by rw [← hs]
    rw [e4, List.append_assoc]
    rfl
theorem sby_back (s : ByteArray) : (⟨((sby s).map UInt8.ofNat).toArray⟩ : ByteArray) = s := by
  have e : (sby s).map UInt8.ofNat = s.toList := by
    unfold sby
    rw [List.map_map]
    conv => rhs; rw [← List.map_id s.toList]
    apply List.map_congr_left
    intro a _
    simp
  rw [e]
  cases s with
  | mk d => rw [ByteArray.toList_mk]
end Go.Proofs.Ytihbjnjpomljjaa
/- Pieces: what is laid is read as it was; how long it is: plain. -/
namespace Go.Proofs.Ytihbjnjpomljjaa
set_option maxRecDepth 100000
open Go.RowKit
set_option linter.unusedVariables false
set_option linter.unusedSimpArgs false
theorem run1_all (s : ByteArray) : ∀ (l : List Pc), ∀ q ∈ l.take (run1 s l), q.s = s
  | [], q, h => by simp at h
  | p :: l, q, h => by
    unfold run1 at h
    split at h
    · rename_i he
      rw [List.take_succ_cons] at h
      rcases List.mem_cons.1 h with rfl | h
      · exact he
      · exact run1_all s l q h
    · simp at h
theorem grps_nil : grps [] = [] := by unfold grps; rw [gls_nil]; rfl
theorem grps_cons (p : Pc) (l : List Pc) : grps (p :: l) = (p :: l.take (run1 p.s l)) :: grps (l.drop (run1 p.s l)) := by
  unfold grps
  rw [gls_cons]
  rfl
theorem drop_lt_len (s : ByteArray) (l : List Pc) (m : Nat) (h : l.length ≤ m) : (l.drop (run1 s l)).length ≤ m := by rw [List.length_drop]; omega
theorem grps_ind {Q : List Pc → Prop} (h0 : Q []) (h1 : ∀ p l, Q (l.drop (run1 p.s l)) → Q (p :: l)) : ∀ l, Q l := by
  suffices H : ∀ m, ∀ l : List Pc, l.length ≤ m → Q l from fun l => H _ l (Nat.le_refl _)
  intro m
  induction m with
  | zero => intro l hl; rw [List.eq_nil_of_length_eq_zero (by omega : l.length = 0)]; exact h0
  | succ m ih =>
    intro l hl
    cases l with
    | nil => exact h0
    | cons p l => exact h1 p l (ih _ (drop_lt_len _ _ _ (by simpa using hl)))
theorem grps_flat : ∀ l, (grps l).flatten = l := grps_ind (by rw [grps_nil]; rfl) fun p l ih => by
  rw [grps_cons, List.flatten_cons, ih, List.cons_append, List.take_append_drop]
theorem len_flat {gs : List (List Pc)} {g : List Pc} (h : g ∈ gs) : g.length ≤ gs.flatten.length := by
  induction gs with
  | nil => cases h
  | cons a gs ih =>
    rw [List.flatten_cons, List.length_append]
    rcases List.mem_cons.1 h with rfl | h
    · omega
    · have := ih h; omega
/-- a series' pieces -/
def OneSer (g : List Pc) : Prop := ∃ p g', g = p :: g' ∧ ∀ q ∈ g, q.s = p.s
theorem grps_one : ∀ l, ∀ g ∈ grps l, OneSer g := grps_ind (fun g h => by rw [grps_nil] at h; cases h) fun p l ih g h => by
  rw [grps_cons] at h
  rcases List.mem_cons.1 h with rfl | h
  · refine ⟨p, _, rfl, fun q hq => ?_⟩
    rcases List.mem_cons.1 hq with rfl | hq
    · rfl
    · exact run1_all _ _ q hq
  · exact ih g h
theorem grps_mem (l : List Pc) (g : List Pc) (h : g ∈ grps l) : ∀ q ∈ g, q ∈ l := fun q hq => by
  rw [← grps_flat l]
  exact List.mem_flatten.2 ⟨g, h, hq⟩
theorem rsL_put (g : List Pc) (rest : List Nat) (h1 : OneSer g) (hk : ∀ p ∈ g, PcOk p ∧ p.s.size < 1000000) (hn : g.length < 1000000) : rsL (putL g ++ rest) false = (g, rest, false) := by
  obtain ⟨p, g', rfl, hs⟩ := h1
  have hp := (hk p (by simp)).2
  unfold putL
  simp only [List.append_assoc]
  have h2 := rdB_app (sby p.s) (sh (p :: g').length ++ (rowsL 0 0 0 (p :: g') ++ rest)) false
  have hl : (sby p.s).length = p.s.size := by unfold sby; rw [List.length_map]; cases p.s with | mk d => rw [ByteArray.toList_mk]; rfl
  rw [hl] at h2
  rw [rsL_eq _ _ (rdS_sh _ _ (by omega)) h2 (rdS_sh _ _ (by omega)), sby_back, rpL_rows p.s (p :: g') 0 0 0 [] rest (fun q hq => ⟨(hk q hq).1, hs q hq⟩) (by decide) (by decide) (by decide) (by decide)]
  rfl
theorem rgL_put (gs : List (List Pc)) : ∀ (acc : List Pc) (rest : List Nat), (∀ g ∈ gs, OneSer g ∧ g.length < 1000000 ∧ ∀ p ∈ g, PcOk p ∧ p.s.size < 1000000) →
    rgL gs.length ((gs.map putL).flatten ++ rest) false acc = (acc ++ gs.flatten, false) := by
  induction gs with
  | nil => intro acc rest _; simp [rgL]
  | cons g gs ih =>
    intro acc rest h
    obtain ⟨h1, h2, h3⟩ := h g (by simp)
    rw [List.length_cons, rgL, List.map_cons, List.flatten_cons, List.append_assoc, rsL_put g _ h1 h3 h2]
    simp only [Bool.false_eq_true, if_false]
    rw [ih _ _ (fun g hg => h g (by simp [hg])), List.flatten_cons, List.append_assoc]
/-- what is laid is read as it was -/
theorem read_form (l : List Pc) (h : ∀ p ∈ l, PcOk p ∧ p.s.size < 1000000) (hl : l.length < 1000000) : rgL (rdS (formP l) false).1 (rdS (formP l) false).2.1 (rdS (formP l) false).2.2 [] = (l, false) := by
  have hgn : ∀ l : List Pc, (grps l).length ≤ l.length := grps_ind (by rw [grps_nil]; exact Nat.le_refl _) fun p l ih => by
    rw [grps_cons, List.length_cons, List.length_cons]
    rw [List.length_drop] at ih
    omega
  have hn := hgn l
  unfold formP
  rw [rdS_sh _ _ (by omega)]
  have := rgL_put (grps l) [] [] (fun g hg => ⟨grps_one l g hg, by
    have hm : g.length ≤ (grps l).flatten.length := by
      exact len_flat hg
    rw [grps_flat] at hm
    omega, fun p hp => h p (grps_mem l g hg p hp)⟩)
  rw [List.append_nil, grps_flat, List.nil_append] at this
  exact this
/-- how long a short form is -/
theorem sh_len (n k : Nat) (h : n < 128 ^ (k + 1)) : (sh n).length ≤ k + 1 := by
  induction k generalizing n with
  | zero =>
    rw [sh, dif_pos (by simpa using h)]
    exact Nat.le_refl _
  | succ k ih =>
    rw [sh]
    split
    · simp
    · rw [List.length_cons]
      have := ih (n / 128) (by rw [Nat.div_lt_iff_lt_mul (by decide), ← Nat.pow_succ]; exact h)
      omega
theorem sh_pos (n : Nat) : 1 ≤ (sh n).length := by
  rw [sh]; split <;> simp
theorem sh64 (n : Nat) (h : n < 18446744073709551616) : (sh n).length ≤ 10 := sh_len n 9 (Nat.lt_of_lt_of_le h (by decide))
theorem rowsL_len (g : List Pc) : ∀ t step v, (∀ p ∈ g, PcOk p) → (rowsL t step v g).length ≤ 32 * g.length := by
  induction g with
  | nil => intro t step v _; simp [rowsL]
  | cons p g ih =>
    intro t step v h
    have hp := h p (by simp)
    have h1 := sh64 _ (zig_lt (w64 (w64 (p.t - t) - step)) (w64_lo _) (w64_hi _))
    have h2 := sh64 _ (zig_lt (w64 (p.v - v)) (w64_lo _) (w64_hi _))
    have h3 := sh64 _ hp.n1
    have h4 := ih p.t (w64 (p.t - t)) p.v (fun q hq => h q (by simp [hq]))
    rw [rowsL]
    simp only [List.length_append, form_len, List.length_cons]
    omega
theorem sby_len (s : ByteArray) : (sby s).length = s.size := by
  unfold sby; rw [List.length_map]; cases s with | mk d => rw [ByteArray.toList_mk]; rfl
theorem putG_len (gs : List (List Pc)) : (∀ g ∈ gs, OneSer g ∧ g.length < 16384 ∧ ∀ p ∈ g, PcOk p ∧ p.s.size < 16384) → ((gs.map putL).flatten).length ≤ roomG gs + 32 * gs.flatten.length := by
  induction gs with
  | nil => intro _; simp [roomG]
  | cons g gs ih =>
    intro h
    obtain ⟨⟨p, g', rfl, hs⟩, h2, h3⟩ := h g (by simp)
    have h4 := ih (fun g hg => h g (by simp [hg]))
    have h5 := sh_len p.s.size 1 (by have := (h3 p (by simp)).2; simpa using this)
    have h6 := sh_len (p :: g').length 1 (by simpa using h2)
    have h7 := rowsL_len (p :: g') 0 0 0 (fun q hq => (h3 q hq).1)
    rw [List.map_cons, List.flatten_cons, List.length_append, List.flatten_cons, List.length_append, roomG, putL]
    simp only [List.length_append, sby_len]
    omega
theorem form_fits (l : List Pc) (h : ∀ p ∈ l, PcOk p ∧ p.s.size < 16384) (hl : l.length < 16384) : (formP l).length + 2 ≤ roomL l := by
  have hgn : ∀ l : List Pc, (grps l).length ≤ l.length := grps_ind (by rw [grps_nil]; exact Nat.le_refl _) fun p l ih => by
    rw [grps_cons, List.length_cons, List.length_cons]
    rw [List.length_drop] at ih
    omega
  have hn := hgn l
  have h1 := sh_len (grps l).length 1 (by have : (128 : Nat) ^ 2 = 16384 := by decide
                                          omega)
  have h2 := putG_len (grps l) (fun g hg => ⟨grps_one l g hg, by
    have hm : g.length ≤ (grps l).flatten.length := by
      exact len_flat hg
    rw [grps_flat] at hm
    omega, fun p hp => h p (grps_mem l g hg p hp)⟩)
  rw [grps_flat] at h2
  unfold formP roomL
  rw [List.length_append]
  omega
end Go.Proofs.Ytihbjnjpomljjaa
/- Pieces: which may be laid, and how: plain. -/
namespace Go.Proofs.Ytihbjnjpomljjaa
set_option maxRecDepth 100000
open Go.RowKit
set_option linter.unusedVariables false
set_option linter.unusedSimpArgs false
def pc0 : Pc := ⟨ByteArray.empty, 0, 0, 0, 0⟩
/-- what the heads of the series take -/
def hdL : Option ByteArray → List Pc → Nat
  | _, [] => 0
  | o, p :: l => (if o = some p.s then 0 else 6 + p.s.size) + hdL (some p.s) l
theorem hdL_same (s : ByteArray) : ∀ l : List Pc, hdL (some s) l = hdL none (l.drop (run1 s l))
  | [] => rfl
  | p :: l => by
    unfold run1
    split
    · rename_i he
      subst he
      rw [hdL, if_pos rfl, Nat.zero_add, List.drop_succ_cons]
      exact hdL_same p.s l
    · rename_i hne
      rw [List.drop_zero, hdL, hdL, if_neg (fun h => hne (Option.some.inj h).symm), if_neg (by intro h; cases h)]
theorem room_heads : ∀ l, roomG (grps l) = hdL none l := grps_ind (by rw [grps_nil]; rfl) fun p l ih => by
  rw [grps_cons, roomG, ih, hdL, if_neg (by intro h; cases h), hdL_same]
/-- the series that comes last -/
def lastS : Option ByteArray → List Pc → Option ByteArray
  | o, [] => o
  | _, p :: l => lastS (some p.s) l
theorem lastS_snoc (q : Pc) : ∀ (l : List Pc) (o : Option ByteArray), lastS o (l ++ [q]) = some q.s
  | [], o => rfl
  | p :: l, o => lastS_snoc q l (some p.s)
def hd1 (o : Option ByteArray) (q : Pc) : Nat := if o = some q.s then 0 else 6 + q.s.size
theorem hdL_snoc (q : Pc) : ∀ (l : List Pc) (o : Option ByteArray), hdL o (l ++ [q]) = hdL o l + hd1 (lastS o l) q
  | [], o => by unfold lastS hd1; rw [List.nil_append, hdL, hdL, hdL]; omega
  | p :: l, o => by rw [List.cons_append, hdL, hdL_snoc q l (some p.s), hdL, lastS]; omega
/-- what the first k pieces take -/
def roomTo (l : List Pc) (k : Nat) : Nat := 4 + 32 * k + hdL none (l.take k)
theorem roomTo_zero (l : List Pc) : roomTo l 0 = 4 := by simp [roomTo, hdL]
theorem roomTo_all (l : List Pc) : roomTo l l.length = roomL l := by unfold roomTo roomL; rw [List.take_length, room_heads]
theorem roomTo_succ (l : List Pc) (k : Nat) (h : k < l.length) : roomTo l (k + 1) = roomTo l k + (if k = 0 ∨ (l.getD k pc0).s ≠ (l.getD (k - 1) pc0).s then 6 + (l.getD k pc0).s.size else 0) + 32 := by
  unfold roomTo
  have e : l.take (k + 1) = l.take k ++ [l.getD k pc0] := by
    rw [List.take_succ_eq_append_getElem h]
    simp [List.getD_eq_getElem?_getD, h]
  rw [e, hdL_snoc]
  rcases Nat.eq_zero_or_pos k with h0 | h0
  · subst h0
    rw [List.take_zero]
    unfold lastS hd1
    rw [if_neg (by intro h; cases h), if_pos (.inl rfl)]
    omega
  · obtain ⟨j, rfl⟩ : ∃ j, k = j + 1 := ⟨k - 1, by omega⟩
    have e2 : l.take (j + 1) = l.take j ++ [l.getD j pc0] := by
      rw [List.take_succ_eq_append_getElem (by omega)]
      simp [List.getD_eq_getElem?_getD, show j < l.length by omega]
    have e3 : lastS none (l.take (j + 1)) = some (l.getD j pc0).s := by rw [e2, lastS_snoc]
    rw [e3, show j + 1 - 1 = j from rfl]
    unfold hd1
    by_cases hs : (l.getD j pc0).s = (l.getD (j + 1) pc0).s
    · rw [if_pos (by rw [hs]), if_neg (by rintro (h1 | h1); · omega
                                          · exact h1 hs.symm)]
      omega
    · rw [if_neg (fun h => hs (Option.some.inj h)), if_pos (.inr (fun h1 => hs h1.symm))]
      omega
theorem roomTo_mono (l : List Pc) (k : Nat) : ∀ d, k + d ≤ l.length → roomTo l k ≤ roomTo l (k + d) := by
  intro d
  induction d with
  | zero => intro _; exact Nat.le_refl _
  | succ d ih =>
    intro h
    have h1 := ih (by omega)
    have h2 := roomTo_succ l (k + d) (by omega)
    rw [← Nat.add_assoc, h2]
    omega
/-- texts in order -/
def ltS (a b : ByteArray) : Bool := Op.bytesLess a.toList b.toList
theorem bless_irr : ∀ l : List UInt8, Op.bytesLess l l = false
  | [] => rfl
  | a :: l => by rw [Op.bytesLess, bless_irr l]; simp
theorem bless_tri : ∀ l m : List UInt8, l ≠ m → Op.bytesLess l m = false → Op.bytesLess m l = true
  | [], [], h, _ => absurd rfl h
  | [], b :: m, _, h => by simp [Op.bytesLess] at h
  | a :: l, [], _, _ => rfl
  | a :: l, b :: m, hne, h => by
    rw [Op.bytesLess] at h ⊢
    simp only [Bool.or_eq_false_iff, Bool.and_eq_false_iff, Bool.or_eq_true, Bool.and_eq_true, decide_eq_false_iff_not, decide_eq_true_eq, beq_iff_eq, beq_eq_false_iff_ne] at h ⊢
    obtain ⟨h1, h2⟩ := h
    by_cases hab : a = b
    · subst hab
      right
      refine ⟨rfl, bless_tri l m (fun e => hne (by rw [e])) ?_⟩
      rcases h2 with h2 | h2
      · exact absurd rfl h2
      · exact h2
    · left
      rw [UInt8.lt_iff_toNat_lt] at h1 ⊢
      have : a.toNat ≠ b.toNat := fun e => hab (UInt8.toNat_inj.1 e)
      omega
theorem bless_asym : ∀ l m : List UInt8, Op.bytesLess l m = true → Op.bytesLess m l = false
  | [], [], h => by simp [Op.bytesLess] at h
  | [], b :: m, _ => rfl
  | a :: l, [], h => by simp [Op.bytesLess] at h
  | a :: l, b :: m, h => by
    rw [Op.bytesLess] at h ⊢
    simp only [Bool.or_eq_false_iff, Bool.and_eq_false_iff, Bool.or_eq_true, Bool.and_eq_true, decide_eq_false_iff_not, decide_eq_true_eq, beq_iff_eq, beq_eq_false_iff_ne] at h ⊢
    rcases h with h | ⟨h, h2⟩
    · rw [UInt8.lt_iff_toNat_lt] at h ⊢
      exact ⟨by omega, .inl (fun e => by subst e; omega)⟩
    · subst h
      exact ⟨by rw [UInt8.lt_iff_toNat_lt]; omega, .inr (bless_asym l m h2)⟩
theorem toList_inj {a b : ByteArray} (h : a.toList = b.toList) : a = b := by
  cases a with
  | mk x => cases b with
    | mk y => rw [ByteArray.toList_mk, ByteArray.toList_mk] at h; rw [Array.toList_inj.1 h]
/-- whether one stands before the other in a list -/
def okPair (a b : Pc) : Bool := ltS a.s b.s || (a.s.toList == b.s.toList && decide (a.t < b.t))
def ckP (p : Pc) : Bool := decide (1 ≤ p.s.size) && decide (p.s.size ≤ 200)
def okAt (l : List Pc) (i : Nat) : Bool := ckP (l.getD i pc0) && (decide (i = 0) || okPair (l.getD (i - 1) pc0) (l.getD i pc0))
def okTo (l : List Pc) (k : Nat) : Bool := (List.range k).all (okAt l)
theorem okTo_succ (l : List Pc) (k : Nat) : okTo l (k + 1) = (okTo l k && okAt l k) := by unfold okTo; rw [List.range_succ, List.all_append]; simp
theorem okTo_not (l : List Pc) (k n : Nat) (h : k < n) (hk : okAt l k = false) : okTo l n = false := by
  unfold okTo
  rw [List.all_eq_false]
  exact ⟨k, List.mem_range.2 h, by rw [hk]; decide⟩
def chkL (l : List Pc) : Nat := if 256 < l.length ∨ 4096 < roomL l then 3 else if okTo l l.length then 0 else 1
def layL (l : List Pc) : List Nat := form (formP l).length 2 ++ formP l ++ List.replicate (roomL l - (2 + (formP l).length)) 0
theorem okTo_at {l : List Pc} {k : Nat} (h : okTo l l.length = true) (hk : k < l.length) : okAt l k = true := by
  unfold okTo at h
  exact List.all_eq_true.1 h k (List.mem_range.2 hk)
/-- pieces that may be laid are so long -/
theorem chk_ok {l : List Pc} (h : chkL l = 0) : l.length ≤ 256 ∧ roomL l ≤ 4096 ∧ okTo l l.length = true := by
  unfold chkL at h
  split at h
  · cases h
  · rename_i h1
    split at h
    · rename_i h2; exact ⟨by omega, by omega, h2⟩
    · cases h
theorem chk_sizes {l : List Pc} (h : chkL l = 0) : ∀ p ∈ l, 1 ≤ p.s.size ∧ p.s.size ≤ 200 := fun p hp => by
  obtain ⟨k, hk, rfl⟩ := List.mem_iff_getElem.1 hp
  have h1 := okTo_at (chk_ok h).2.2 hk
  unfold okAt ckP at h1
  rw [List.getD_eq_getElem?_getD, List.getElem?_eq_getElem hk] at h1
  simp only [Option.getD_some, Bool.and_eq_true, decide_eq_true_eq] at h1
  exact h1.1
theorem layL_len {l : List Pc} (h : chkL l = 0) (hl : ∀ p ∈ l, PcOk p) : (layL l).length = roomL l := by
  have h1 := form_fits l (fun p hp => ⟨hl p hp, by have := (chk_sizes h p hp).2; omega⟩) (by have := (chk_ok h).1; omega)
  unfold layL
  simp only [List.length_append, form_len, List.length_replicate]
  omega
/-- what is read -/
def bodyL (b : List Nat) : List Nat := (b.drop 2).take (number (b.take 2))
def shortB (b : List Nat) : Bool := decide (b.length < 2) || decide (b.length < number (b.take 2) + 2)
def readB (b : List Nat) : List Pc × Bool := rgL (rdS (bodyL b) false).1 (rdS (bodyL b) false).2.1 (rdS (bodyL b) false).2.2 []
def readE (b : List Nat) : Nat := if shortB b then 2 else if (readB b).2 then 4 else if chkL (readB b).1 = 0 ∧ layL (readB b).1 = b then 0 else 4
def readL (b : List Nat) : List Pc := if readE b = 0 then (readB b).1 else []
theorem read_lay {l : List Pc} (h : chkL l = 0) (hl : ∀ p ∈ l, PcOk p) : readE (layL l) = 0 ∧ readL (layL l) = l := by
  have hs := chk_sizes h
  have hc := chk_ok h
  have h1 := form_fits l (fun p hp => ⟨hl p hp, by have := (hs p hp).2; omega⟩) (by omega)
  have e1 : (layL l).take 2 = form (formP l).length 2 := by
    unfold layL
    rw [List.append_assoc, List.take_append_of_le_length (by rw [form_len]; exact Nat.le_refl _), List.take_of_length_le (by rw [form_len]; exact Nat.le_refl _)]
  have e2 : number ((layL l).take 2) = (formP l).length := by
    rw [e1, number_form]
    have : (256 : Nat) ^ 2 = 65536 := by decide
    omega
  have e3 : bodyL (layL l) = formP l := by
    unfold bodyL
    rw [e2]
    unfold layL
    rw [List.append_assoc, List.drop_append_of_le_length (by rw [form_len]; exact Nat.le_refl _), List.drop_of_length_le (by rw [form_len]; exact Nat.le_refl _), List.nil_append, List.take_append_of_le_length (Nat.le_refl _), List.take_length]
  have e4 : readB (layL l) = (l, false) := by
    unfold readB
    rw [e3]
    exact read_form l (fun p hp => ⟨hl p hp, by have := (hs p hp).2; omega⟩) (by omega)
  have e5 : shortB (layL l) = false := by
    unfold shortB
    rw [e2, layL_len h hl]
    simp
    omega
  have e6 : readE (layL l) = 0 := by
    unfold readE
    rw [e5, e4]
    simp only [Bool.false_eq_true, if_false]
    rw [if_pos ⟨h, trivial⟩]
  exact ⟨e6, by unfold readL; rw [if_pos e6, e4]⟩
end Go.Proofs.Ytihbjnjpomljjaa
/- Regions that draw their order and hold calls whose answers hang on the order (addresses of new memory): one walk of the text's order serves all. -/
namespace Go.Proofs.Ytihbjnjpomljjaa
set_option maxRecDepth 100000
open Go.RowKit
set_option linter.unusedVariables false
/-- stands in the walk's frame for what a loud call handed back -/
def tok : Value := .bool true
def isTok (v : Value) : Bool := match v with | .bool true => true | _ => false
theorem isTok_eq {v : Value} (h : isTok v = true) : v = tok := by
  unfold isTok at h; split at h
  · rfl
  · cases h
section
variable {P : Program} {ops : Array Oper} {md : Region.Mode} {Z : World} {ls : List Tmp} {V : Tmp → Value → World → Prop}
def SimAt (ls : List Tmp) (V : Tmp → Value → World → Prop) (b a : Act) (w : World) (k : Tmp) : Prop :=
  (ls.contains k = true → b.eval (.tmp k) = tok → V k (a.eval (.tmp k)) w) ∧ (ls.contains k = false → a.eval (.tmp k) = b.eval (.tmp k))
structure Sim (ls : List Tmp) (V : Tmp → Value → World → Prop) (b a : Act) (w : World) : Prop where
  de : a.defers = b.defers
  sz : a.tmps.size = b.tmps.size
  at_ : ∀ k, SimAt ls V b a w k
def LoudUpon (P : Program) (ls : List Tmp) (V : Tmp → Value → World → Prop) (dst : Option Tmp) (w : World) (v : Value) : Result Next → Prop
  | .ok (.value u) w' => (w' = w ∧ u = v ∧ ∀ d, dst = some d → ls.contains d = false) ∨ (Below w.heap.size w w' ∧ ∀ d, dst = some d → ls.contains d = true ∧ V d u w')
  | .ok (.enter f args) w' => w' = w ∧ Calls P f args w (fun e w'' => ∃ u, e = .returned u ∧ Below w.heap.size w w'' ∧ ∀ d, dst = some d → (ls.contains d = true → V d u w'') ∧ (ls.contains d = false → u = v))
  | _ => False
def LQ (P : Program) (ops : Array Oper) (Z : World) (ls : List Tmp) (V : Tmp → Value → World → Prop) (o : Oper) (b : Act) (v : Value) : Prop :=
  ∀ a w, Below Z.heap.size Z w → (∀ k ∈ o.looksAt ops, SimAt ls V b a w k) → LoudUpon P ls V o.dst w v ((execOp a.eval o).run P w)
theorem LQ.put {o : Oper} {b : Act} {v u : Value} {dst : Option Tmp} (h : ∀ d, dst = some d → d ∉ o.looksAt ops) (hq : LQ P ops Z ls V o b v) : LQ P ops Z ls V o (b.put dst u) v := fun a w hC hs =>
  hq a w hC fun k hk => by
    have := hs k hk
    unfold SimAt at *
    rw [Act.eval_put (a := b) (dst := dst) (v := u) (x := .tmp k) (fun d hd he => h d hd (by injection he with he; rw [← he]; exact hk))] at this
    exact this
theorem LQ.unput {o : Oper} {b : Act} {v u : Value} {dst : Option Tmp} (h : ∀ d, dst = some d → d ∉ o.looksAt ops) (hq : LQ P ops Z ls V o (b.put dst u) v) : LQ P ops Z ls V o b v := fun a w hC hs =>
  hq a w hC fun k hk => by
    have := hs k hk
    unfold SimAt at *
    rw [Act.eval_put (a := b) (dst := dst) (v := u) (x := .tmp k) (fun d hd he => h d hd (by injection he with he; rw [← he]; exact hk))]
    exact this
def wpLoud (P : Program) (ops : Array Oper) (Z : World) (ls : List Tmp) (V : Tmp → Value → World → Prop) (Q : Act → Prop) : List Oper → Act → Prop
  | [], b => Q b
  | o :: rest, b => if Region.wanted o (yielded ops b.tmps) then ∃ v, LQ P ops Z ls V o b v ∧ wpLoud P ops Z ls V Q rest (b.put o.dst v) else wpLoud P ops Z ls V Q rest (b.put o.dst undef)
def lOp (P : Program) (ops : Array Oper) (Z : World) (ls : List Tmp) (V : Tmp → Value → World → Prop) (i : Nat) (K : Act → Prop) (b : Act) : Prop :=
  match ops[i]? with
  | none => K b
  | some o => if Region.wanted o (yielded ops b.tmps) then ∃ v, LQ P ops Z ls V o b v ∧ K (b.put o.dst v) else K (b.put o.dst undef)
theorem lOp_mono {i : Nat} {b : Act} {K K' : Act → Prop} (h : ∀ b, K b → K' b) (hh : lOp P ops Z ls V i K b) : lOp P ops Z ls V i K' b := by
  unfold lOp at *
  split
  · exact h _ (by simpa [*] using hh)
  · rename_i o ho
    simp only [ho] at hh
    split
    · rename_i hw; simp only [hw, if_true] at hh; obtain ⟨v, h1, h2⟩ := hh; exact ⟨v, h1, h _ h2⟩
    · rename_i hw; simp only [hw] at hh; exact h _ hh
def wpAnyL (P : Program) (md : Region.Mode) (ops : Array Oper) (Z : World) (ls : List Tmp) (V : Tmp → Value → World → Prop) (Q : Act → Prop) : Nat → Array Bool → Act → Prop
  | 0, listed, b => Region.ready md ops listed = [] ∧ Q b
  | fuel + 1, listed, b =>
    (Region.ready md ops listed = [] → Q b) ∧
    ∀ i ∈ Region.ready md ops listed, lOp P ops Z ls V i (wpAnyL P md ops Z ls V Q fuel (listed.setIfInBounds i true)) b
theorem eval_put_at (a : Act) (d : Tmp) (v : Value) (k : Tmp) : (a.put (some d) v).eval (.tmp k) = if k = d ∧ d < a.tmps.size then v else a.eval (.tmp k) := by
  by_cases h : k = d
  · subst h
    by_cases h2 : k < a.tmps.size
    · rw [if_pos ⟨rfl, h2⟩]
      simp [Act.put, Act.eval, h2]
    · rw [if_neg (fun h3 => h2 h3.2)]
      simp [Act.put, Act.eval, h2]
  · rw [if_neg (fun h3 => h h3.1)]
    exact Act.eval_put fun e he hx => h (by injection he with he; injection hx with hx; rw [hx, he])
theorem Sim.put {b a : Act} {w : World} (h : Sim ls V b a w) (dst : Option Tmp) (v u : Value) (hd : ∀ d, dst = some d → (ls.contains d = true → v = tok → V d u w) ∧ (ls.contains d = false → u = v)) : Sim ls V (b.put dst v) (a.put dst u) w := by
  cases dst with
  | none => exact h
  | some d =>
    obtain ⟨h1, h2⟩ := hd d rfl
    refine ⟨h.de, by simp [Act.put, h.sz], fun k => ?_⟩
    obtain ⟨s1, s2⟩ := h.at_ k
    unfold SimAt
    rw [eval_put_at, eval_put_at, h.sz]
    by_cases hk : k = d ∧ d < b.tmps.size
    · rw [if_pos hk, if_pos hk]
      obtain ⟨rfl, _⟩ := hk
      exact ⟨h1, h2⟩
    · rw [if_neg hk, if_neg hk]
      exact ⟨s1, s2⟩
theorem Sim.next {b a : Act} {w w' : World} (hV : ∀ k u w w', V k u w → Below w.heap.size w w' → V k u w') (h : Sim ls V b a w) (hb : Below w.heap.size w w') : Sim ls V b a w' :=
  ⟨h.de, h.sz, fun k => ⟨fun h1 h2 => hV k _ _ _ ((h.at_ k).1 h1 h2) hb, (h.at_ k).2⟩⟩
def guardsB (ops : Array Oper) (ls : List Tmp) : Bool := ops.all fun o => match o.guard with
  | none => true
  | some (g, _) => match (ops[g]?).bind (·.dst) with
    | some d => !ls.contains d
    | none => true
theorem wanted_sim {b a : Act} {w : World} (h : Sim ls V b a w) (hG : guardsB ops ls = true) {o : Oper} {i : Nat} (ho : ops[i]? = some o) : Region.wanted o (yielded ops a.tmps) = Region.wanted o (yielded ops b.tmps) := by
  unfold Region.wanted
  cases hg : o.guard with
  | none => rfl
  | some gw =>
    obtain ⟨g, want⟩ := gw
    have hi : i < ops.size := by
      rcases Nat.lt_or_ge i ops.size with h1 | h1
      · exact h1
      · rw [Array.getElem?_eq_none h1] at ho; cases ho
    have he : ops[i] = o := by rw [Array.getElem?_eq_getElem hi] at ho; injection ho
    have h1 := (Array.all_eq_true.1 hG) i hi
    rw [he, hg] at h1
    have hy : yielded ops a.tmps g = yielded ops b.tmps g := by
      unfold yielded
      cases ht : (ops[g]?).bind (·.dst) with
      | none => rfl
      | some t =>
        simp only [ht] at h1
        have h2 := (h.at_ t).2 (by simpa using h1)
        have h3 : a.tmps[t]? = b.tmps[t]? := by
          rcases Nat.lt_or_ge t b.tmps.size with h4 | h4
          · have h5 : t < a.tmps.size := by rw [h.sz]; exact h4
            simp only [Act.eval] at h2
            rw [Array.getElem?_eq_getElem h4, Array.getElem?_eq_getElem h5]
            simpa [h4, h5] using h2
          · rw [Array.getElem?_eq_none h4, Array.getElem?_eq_none (by rw [h.sz]; exact h4)]
        simp [h3]
    simp only [hy]
theorem loudStep (hV : ∀ k u w w', V k u w → Below w.heap.size w w' → V k u w') (hG : guardsB ops ls = true) {Q' : Exit → Act → World → Prop} {K : Act → Prop} {K' : Act → World → Prop} (ih : ∀ b a w, Below Z.heap.size Z w → Sim ls V b a w → K b → K' a w)
    {i : Nat} {b a : Act} {w : World} (hC : Below Z.heap.size Z w) (hs : Sim ls V b a w) (h1 : lOp P ops Z ls V i K b) : wpOp P ops Q' i K' a w := by
  unfold lOp at h1
  unfold wpOp
  cases ho : ops[i]? with
  | none => simp only [ho] at h1 ⊢; exact ih _ _ _ hC hs h1
  | some o =>
    simp only [ho] at h1 ⊢
    rw [wanted_sim hs hG ho]
    split
    · rename_i hw
      simp only [hw, if_true] at h1
      obtain ⟨v, hq, hK⟩ := h1
      refine .inl ?_
      have h2 := hq a w hC (fun k _ => hs.at_ k)
      unfold Oper.wp
      generalize (execOp a.eval o).run P w = r at *
      cases r with
      | ok n w' =>
        cases n <;> simp only [LoudUpon] at h2 <;> simp only [Oper.upon]
        case value u =>
          rcases h2 with ⟨rfl, rfl, h3⟩ | ⟨hb, h3⟩
          · exact ih _ _ _ hC (hs.put _ _ _ fun d hd => ⟨fun h4 => (by rw [h3 d hd] at h4; cases h4), fun _ => rfl⟩) hK
          · exact ih _ _ _ (hC.trans (hb.mono hC.size)) ((hs.next hV hb).put _ _ _ fun d hd => ⟨fun _ _ => (h3 d hd).2, fun h4 => (by rw [(h3 d hd).1] at h4; cases h4)⟩) hK
        case enter f args =>
          obtain ⟨rfl, hc⟩ := h2
          refine hc.mono ?_
          rintro e w'' ⟨u, rfl, hb, hd⟩
          exact ih _ _ _ (hC.trans (hb.mono hC.size)) ((hs.next hV hb).put _ _ _ fun d h3 => ⟨fun h4 _ => (hd d h3).1 h4, (hd d h3).2⟩) hK
      | halt x w' => simp only [LoudUpon] at h2
    · rename_i hw
      simp only [hw] at h1
      exact ih _ _ _ hC (hs.put _ _ _ fun d hd => ⟨fun _ h4 => (by cases h4), fun _ => rfl⟩) h1
theorem wpAny_of_loud (hV : ∀ k u w w', V k u w → Below w.heap.size w w' → V k u w') (hG : guardsB ops ls = true) {Q : Act → Prop} {Q' : Exit → Act → World → Prop} (hQ : ∀ b a w, Below Z.heap.size Z w → Sim ls V b a w → Q b → Q' .normal a w) :
    ∀ (fuel : Nat) (listed : Array Bool) (b a : Act) (w : World), Below Z.heap.size Z w → Sim ls V b a w → wpAnyL P md ops Z ls V Q fuel listed b → wpAny P md ops Q' fuel listed a w
  | 0, _, _, _, _, hC, hs, h => ⟨h.1, hQ _ _ _ hC hs h.2⟩
  | fuel + 1, listed, b, a, w, hC, hs, h => ⟨fun h0 => hQ _ _ _ hC hs (h.1 h0), fun i hi => loudStep hV hG (fun b a w => wpAny_of_loud hV hG hQ fuel _ b a w) hC hs (h.2 i hi)⟩
def YieldsL (P : Program) (ops : Array Oper) (Z : World) (ls : List Tmp) (V : Tmp → Value → World → Prop) (o : Oper) (v : Value) (b : Act) : Prop :=
  (Region.wanted o (yielded ops b.tmps) = true ∧ LQ P ops Z ls V o b v) ∨ (Region.wanted o (yielded ops b.tmps) = false ∧ v = undef)
theorem YieldsL.lOp {i : Nat} {o : Oper} {v : Value} {b : Act} (hi : ops[i]? = some o) (hy : YieldsL P ops Z ls V o v b) {K : Act → Prop} (h : K (b.put o.dst v)) : lOp P ops Z ls V i K b := by
  unfold Go.Proofs.Ytihbjnjpomljjaa.lOp
  simp only [hi]
  rcases hy with ⟨hw, hv⟩ | ⟨hw, rfl⟩
  · simp only [hw, if_true]; exact ⟨v, hv, h⟩
  · simp only [hw, Bool.false_eq_true, if_false]; exact h
theorem yieldsL_of {i : Nat} {o : Oper} {b : Act} {K : Act → Prop} (hi : ops[i]? = some o) (h : lOp P ops Z ls V i K b) : ∃ v, YieldsL P ops Z ls V o v b ∧ K (b.put o.dst v) := by
  unfold lOp at h
  simp only [hi] at h
  by_cases hw : Region.wanted o (yielded ops b.tmps) = true
  · simp only [hw, if_true] at h
    obtain ⟨v, h1, h2⟩ := h
    exact ⟨v, .inl ⟨hw, h1⟩, h2⟩
  · simp only [hw] at h
    exact ⟨undef, .inr ⟨by simpa using hw, rfl⟩, h⟩
theorem lOp_put {j : Nat} {oi oj : Oper} {v : Value} (hj : ops[j]? = some oj) (hap : oi.apart ops oj = true) {K : Act → Prop} {b : Act}
    (hy : YieldsL P ops Z ls V oi v b) (h : lOp P ops Z ls V j K (b.put oi.dst v)) : lOp P ops Z ls V j (fun b' => YieldsL P ops Z ls V oi v b' ∧ K (b'.put oi.dst v)) b := by
  obtain ⟨h1, h2, h3⟩ := Oper.apart_spec hap
  have keep : ∀ (b : Act), YieldsL P ops Z ls V oi v b → ∀ u, YieldsL P ops Z ls V oi v (b.put oj.dst u) := fun b hy u => by
    unfold YieldsL at *
    rw [wanted_put oi b oj.dst u h3]
    exact hy.imp (fun h => ⟨h.1, h.2.put h3⟩) id
  unfold lOp at *
  simp only [hj] at *
  rw [wanted_put oj b oi.dst v h1] at h
  split
  · rename_i hw
    simp only [hw, if_true] at h
    obtain ⟨u, hu, hn⟩ := h
    exact ⟨u, hu.unput h1, keep b hy u, by rw [← Act.put_comm b v u h2]; exact hn⟩
  · rename_i hw
    simp only [hw] at h
    exact ⟨keep b hy _, by rw [← Act.put_comm b v undef h2]; exact h⟩
theorem wpAnyL_first {Q : Act → Prop} {i : Nat} {oi : Oper} {v : Value} (hi : ops[i]? = some oi) :
    ∀ (fuel : Nat) (listed : Array Bool) (b : Act),
      (∀ j oj, ops[j]? = some oj → j ≠ i → listed.getD j true = false → (∀ e ∈ oj.after, Region.binds md e = true → e.on ≠ i) → oi.apart ops oj = true) →
      i ∈ Region.ready md ops listed → YieldsL P ops Z ls V oi v b →
      wpAnyL P md ops Z ls V Q fuel (listed.setIfInBounds i true) (b.put oi.dst v) → wpAnyL P md ops Z ls V Q (fuel + 1) listed b := by
  intro fuel
  induction fuel with
  | zero =>
    intro listed b _ hr hy H
    refine ⟨fun h => (by rw [h] at hr; cases hr), fun j hj => ?_⟩
    by_cases hji : j = i
    · subst hji; exact hy.lOp hi H
    · have := ready_mono hj hji
      rw [H.1] at this
      cases this
  | succ fuel ih =>
    intro listed b hfree hr hy H
    refine ⟨fun h => (by rw [h] at hr; cases hr), fun j hj => ?_⟩
    by_cases hji : j = i
    · subst hji; exact hy.lOp hi H
    · have h1 := H.2 j (ready_mono hj hji)
      obtain ⟨hjun, oj, hoj, hall⟩ := mem_ready.1 hj
      have hnot : ∀ e ∈ oj.after, Region.binds md e = true → e.on ≠ i := fun e he hb heq => by
        have h1 := hall e he hb
        have h0 := (mem_ready.1 hr).1
        rw [heq] at h1
        rcases Nat.lt_or_ge i listed.size with h' | h'
        · simp [h'] at h0 h1; rw [h0] at h1; cases h1
        · simp [Array.getElem?_eq_none h'] at h1
      have h2 := lOp_put hoj (hfree j oj hoj hji hjun hnot) hy h1
      have hfree' : ∀ k ok, ops[k]? = some ok → k ≠ i → (listed.setIfInBounds j true).getD k true = false →
          (∀ e ∈ ok.after, Region.binds md e = true → e.on ≠ i) → oi.apart ops ok = true := fun k ok hk hki hun hno => by
        refine hfree k ok hk hki ?_ hno
        by_cases hjk : j = k
        · subst hjk; exact hjun
        · rw [getD_set_ne true hjk] at hun; exact hun
      refine lOp_mono (fun b' h3 => ih (listed.setIfInBounds j true) b' hfree' (ready_mono hr (Ne.symm hji)) h3.1 ?_) h2
      rw [Array.setIfInBounds_comm _ _ hji]
      exact h3.2
theorem wpAnyL_lex {Q : Act → Prop} : ∀ (l : List Oper) (k : Nat) (listed : Array Bool) (b : Act), (∀ j, l[j]? = ops[k + j]?) →
    Region.lexFrom md ops l.length k listed = true → wpLoud P ops Z ls V Q l b → wpAnyL P md ops Z ls V Q l.length listed b
  | [], _, _, _, _, hB, h => ⟨by simpa [Region.lexFrom] using hB, h⟩
  | o :: l, k, listed, b, hl, hB, h => by
    have h0 : ops[k]? = some o := by simpa using (hl 0).symm
    simp only [List.length_cons, Region.lexFrom, Bool.and_eq_true] at hB
    obtain ⟨⟨hr, hf⟩, hB'⟩ := hB
    have hst : lOp P ops Z ls V k (wpLoud P ops Z ls V Q l) b := by unfold lOp; simp only [h0]; exact h
    obtain ⟨v, hy, hK⟩ := yieldsL_of h0 hst
    exact wpAnyL_first h0 l.length listed b (Region.free_spec h0 hf) (by simpa using hr) hy
      (wpAnyL_lex l (k + 1) _ _ (fun j => by have := hl (j + 1); simpa [Nat.add_assoc, Nat.add_comm 1 j] using this) hB' hK)
def idleB (a : Act) (ls : List Tmp) : Bool := ls.all fun k => !isTok (a.eval (.tmp k))
theorem idle_sim {a : Act} {w : World} (hI : idleB a ls = true) : Sim ls V a a w := by
  refine ⟨rfl, rfl, fun k => ⟨fun h1 h2 => ?_, fun _ => rfl⟩⟩
  have h3 := List.all_eq_true.1 hI k (by simpa using h1)
  rw [h2] at h3
  cases h3
theorem wp_region_loud (Z : World) (ls : List Tmp) (V : Tmp → Value → World → Prop) {id : Nat} {Q : Exit → Act → World → Prop} {a : Act} {w : World} {l : List Oper} (hm : P.follows .mixedOrders = true) (hB : Region.lexB .any l.toArray = true) (hG : guardsB l.toArray ls = true) (hI : idleB a ls = true)
    (hV : ∀ k u w w', V k u w → Below w.heap.size w w' → V k u w') (hC : Below Z.heap.size Z w.drew)
    (h : wpLoud P l.toArray Z ls V (fun b => ∀ a' w', Below Z.heap.size Z w' → Sim ls V b a' w' → Q .normal a' w') l a) : (Code.region id l.toArray true).wp P Q a w := by
  simp only [Region.lexB, Bool.and_eq_true] at hB
  refine wp_region_any hm (wpAny_of_loud (Q := fun b => ∀ a' w', Below Z.heap.size Z w' → Sim ls V b a' w' → Q .normal a' w') hV hG (fun b a w h1 h2 h3 => h3 a w h1 h2) _ _ a a _ hC (idle_sim hI) ?_)
  · have := wpAnyL_lex (P := P) (Z := Z) (ls := ls) (V := V) (md := .any) l 0 (Array.replicate l.toArray.size false) a (by simp) (by simpa using hB.2) h
    simpa using this
/-! the head of a region so, its tail as it stands -/
def wpAnyLT (P : Program) (md : Region.Mode) (ops : Array Oper) (Z : World) (ls : List Tmp) (V : Tmp → Value → World → Prop) (n : Nat) (L : Array Bool → Act → Prop) : Nat → Array Bool → Act → Prop
  | 0, listed, b => L listed b
  | f + 1, listed, b => Region.ready md ops listed ≠ [] ∧ ∀ i ∈ Region.ready md ops listed, i < n ∧ lOp P ops Z ls V i (wpAnyLT P md ops Z ls V n L f (listed.setIfInBounds i true)) b
theorem wpAny_of_loudHead {n g : Nat} (hV : ∀ k u w w', V k u w → Below w.heap.size w w' → V k u w') (hG : guardsB ops ls = true) {L : Array Bool → Act → Prop} {Q' : Exit → Act → World → Prop} (hL : ∀ listed b a w, Below Z.heap.size Z w → Sim ls V b a w → L listed b → wpAny P md ops Q' g listed a w) :
    ∀ (f : Nat) (listed : Array Bool) (b a : Act) (w : World), Below Z.heap.size Z w → Sim ls V b a w → wpAnyLT P md ops Z ls V n L f listed b → wpAny P md ops Q' (f + g) listed a w
  | 0, listed, b, a, w, hC, hs, h => by rw [Nat.zero_add]; exact hL _ _ _ _ hC hs h
  | f + 1, listed, b, a, w, hC, hs, h => by
    rw [show f + 1 + g = (f + g) + 1 by omega]
    exact ⟨fun h0 => absurd h0 h.1, fun i hi => loudStep hV hG (fun b a w => wpAny_of_loudHead hV hG hL f _ b a w) hC hs (h.2 i hi).2⟩
theorem wpAnyLT_first {n i : Nat} {oi : Oper} {v : Value} {L : Array Bool → Act → Prop} (hi : ops[i]? = some oi)
    (hs : Region.sinkB md ops n = true) (hc : Region.chainB md ops n = true) (hn : n < ops.size) (hin : i < n)
    (hdone : ∀ listed b, L listed b → ∀ j ∈ Region.ready md ops listed, n ≤ j) :
    ∀ (f : Nat) (listed : Array Bool) (b : Act), HeadInv md ops n listed →
      (∀ j oj, ops[j]? = some oj → j ≠ i → listed.getD j true = false → (∀ e ∈ oj.after, Region.binds md e = true → e.on ≠ i) → oi.apart ops oj = true) →
      i ∈ Region.ready md ops listed → YieldsL P ops Z ls V oi v b →
      wpAnyLT P md ops Z ls V n L f (listed.setIfInBounds i true) (b.put oi.dst v) → wpAnyLT P md ops Z ls V n L (f + 1) listed b := by
  intro f
  induction f with
  | zero =>
    intro listed b inv _ hr hy H
    have hun := (mem_ready.1 hr).1
    refine ⟨fun h => (by rw [h] at hr; cases hr), fun j hj => ?_⟩
    have hjn : j < n := by
      rcases Nat.lt_or_ge j n with h | h
      · exact h
      · exact absurd hj (tail_waits hs hc hn inv _ i rfl hin hun j h)
    refine ⟨hjn, ?_⟩
    by_cases hji : j = i
    · subst hji; exact hy.lOp hi H
    · have := hdone _ _ H j (ready_mono hj hji)
      omega
  | succ f ih =>
    intro listed b inv hfree hr hy H
    have hun := (mem_ready.1 hr).1
    refine ⟨fun h => (by rw [h] at hr; cases hr), fun j hj => ?_⟩
    have hjn : j < n := by
      rcases Nat.lt_or_ge j n with h | h
      · exact h
      · exact absurd hj (tail_waits hs hc hn inv _ i rfl hin hun j h)
    refine ⟨hjn, ?_⟩
    by_cases hji : j = i
    · subst hji; exact hy.lOp hi H
    · have h1 := (H.2 j (ready_mono hj hji)).2
      obtain ⟨hjun, oj, hoj, hall⟩ := mem_ready.1 hj
      have hnot : ∀ e ∈ oj.after, Region.binds md e = true → e.on ≠ i := fun e he hb heq => by
        have h1 := hall e he hb
        rw [heq, getD_both hun] at h1
        cases h1
      have h2 := lOp_put hoj (hfree j oj hoj hji hjun hnot) hy h1
      have hfree' : ∀ k ok, ops[k]? = some ok → k ≠ i → (listed.setIfInBounds j true).getD k true = false →
          (∀ e ∈ ok.after, Region.binds md e = true → e.on ≠ i) → oi.apart ops ok = true := fun k ok hk hki hun hno => by
        refine hfree k ok hk hki ?_ hno
        by_cases hjk : j = k
        · subst hjk; exact hjun
        · rw [getD_set_ne true hjk] at hun; exact hun
      refine lOp_mono (fun b' h3 => ih (listed.setIfInBounds j true) b' (inv.set hj hjn) hfree' (ready_mono hr (Ne.symm hji)) h3.1 ?_) h2
      rw [Array.setIfInBounds_comm _ _ hji]
      exact h3.2
theorem wpAnyLT_lex {n g : Nat} {Lq : Act → Prop} (hs : Region.sinkB md ops n = true) (hc : Region.chainB md ops n = true) (hn : n < ops.size) :
    ∀ (l : List Oper) (k : Nat) (listed : Array Bool) (b : Act), (∀ j, j < l.length → l[j]? = ops[k + j]?) → k + l.length = n → HeadInv md ops n listed →
    Region.lexHead md ops g l.length k listed = true → wpLoud P ops Z ls V Lq l b →
    wpAnyLT P md ops Z ls V n (fun listed' b' => Region.seqB md ops g n listed' = true ∧ Lq b') l.length listed b
  | [], k, listed, b, _, hk, _, hB, h => by
    have : k = n := by simpa using hk
    subst this
    exact ⟨by simpa [Region.lexHead] using hB, h⟩
  | o :: l, k, listed, b, hl, hk, inv, hB, h => by
    have h0 : ops[k]? = some o := by simpa using (hl 0 (by simp)).symm
    simp only [List.length_cons, Region.lexHead, Bool.and_eq_true] at hB
    obtain ⟨⟨hr, hf⟩, hB'⟩ := hB
    have hkn : k < n := by simp only [List.length_cons] at hk; omega
    have hr' : k ∈ Region.ready md ops listed := by simpa using hr
    have hst : lOp P ops Z ls V k (wpLoud P ops Z ls V Lq l) b := by unfold lOp; simp only [h0]; exact h
    obtain ⟨v, hy, hK⟩ := yieldsL_of h0 hst
    exact wpAnyLT_first h0 hs hc hn hkn (fun listed' a' hL => seqB_ready hL.1) l.length listed b inv (Region.free_spec h0 hf) hr' hy
      (wpAnyLT_lex hs hc hn l (k + 1) _ _ (fun j hj => by have := hl (j + 1) (by simp; omega); simpa [Nat.add_assoc, Nat.add_comm 1 j] using this) (by simp only [List.length_cons] at hk; omega) (inv.set hr' hkn) hB' hK)
theorem wp_region_loudTail (n : Nat) (Z : World) (ls : List Tmp) (V : Tmp → Value → World → Prop) {id : Nat} {Q : Exit → Act → World → Prop} {a : Act} {w : World} {l : List Oper} (hm : P.follows .mixedOrders = true) (hB : Region.lexTailB .any l.toArray n = true) (hG : guardsB l.toArray ls = true) (hI : idleB a ls = true)
    (hV : ∀ k u w w', V k u w → Below w.heap.size w w' → V k u w') (hC : Below Z.heap.size Z w.drew)
    (h : wpLoud P l.toArray Z ls V (fun b => ∀ a' w', Below Z.heap.size Z w' → Sim ls V b a' w' → wpList P l.toArray Q (l.drop n) a' w') (l.take n) a) : (Code.region id l.toArray true).wp P Q a w := by
  simp only [Region.lexTailB, Bool.and_eq_true, decide_eq_true_eq] at hB
  obtain ⟨⟨⟨⟨hsel, hn⟩, hs⟩, hc⟩, hlex⟩ := hB
  have hn' : n < l.length := by simpa using hn
  have htl : (l.take n).length = n := by simp; omega
  have hdl : (l.drop n).length = l.toArray.size - n := by simp
  have inv0 : HeadInv .any l.toArray n (Array.replicate l.toArray.size false) :=
    ⟨by simp, fun j oj _ hl => (by rw [getD_replicate_false] at hl; cases hl), fun t _ ht => getD_in (by simpa using ht) (getD_replicate_false _ _)⟩
  have H := wpAnyLT_lex (P := P) (Z := Z) (ls := ls) (V := V) (md := .any) (g := l.toArray.size - n) hs hc hn (l.take n) 0 _ a (fun j hj => by
    have hj' : j < n := by rw [htl] at hj; exact hj
    simp [hj']) (by simpa using htl) inv0 (by rw [htl]; exact hlex) h
  refine wp_region_any hm ?_
  have := wpAny_of_loudHead (Q' := Q) (g := l.toArray.size - n) hV hG (fun listed b' a' w' hC' hS hL => by
    have := wpAny_of_seq (md := .any) (Q' := Q) (l.drop n) n listed a' w' (fun j => by simp [List.getElem?_drop]) (by rw [hdl]; exact hL.1) (hL.2 a' w' hC' hS)
    rwa [hdl] at this) _ _ a a w.drew hC (idle_sim hI) H
  rw [htl, show n + (l.toArray.size - n) = l.toArray.size by omega] at this
  exact this
/-- the frame with what the loud calls handed back -/
def fill (g : Tmp → Value) : List Tmp → Act → Act
  | [], b => b
  | k :: ks, b => fill g ks (b.put (some k) (g k))
theorem fill_size (g : Tmp → Value) : ∀ (ls : List Tmp) (b : Act), (fill g ls b).tmps.size = b.tmps.size ∧ (fill g ls b).defers = b.defers
  | [], b => ⟨rfl, rfl⟩
  | k :: ks, b => by
    have := fill_size g ks (b.put (some k) (g k))
    exact ⟨this.1.trans (by simp [Act.put]), this.2⟩
theorem fill_eval (g : Tmp → Value) (k : Tmp) : ∀ (ls : List Tmp) (b : Act), k < b.tmps.size → (fill g ls b).eval (.tmp k) = if ls.contains k then g k else b.eval (.tmp k)
  | [], b, _ => rfl
  | j :: ks, b, hk => by
    have h1 := fill_eval g k ks (b.put (some j) (g j)) (by simpa [Act.put] using hk)
    show (fill g ks (b.put (some j) (g j))).eval (.tmp k) = _
    rw [h1, eval_put_at]
    by_cases h2 : k = j
    · subst h2
      rw [if_pos (c := k = k ∧ _) ⟨rfl, hk⟩]
      simp
    · rw [if_neg (c := k = j ∧ _) (fun h => h2 h.1)]
      have h3 : (j :: ks).contains k = ks.contains k := by
        rw [List.contains_cons]
        have h4 : (k == j) = false := by simpa using h2
        rw [h4]; rfl
      rw [h3]
theorem Sim.filled {b a : Act} {w : World} (h : Sim ls V b a w) : a = fill (fun k => a.eval (.tmp k)) ls b := by
  obtain ⟨s1, s2⟩ := fill_size (fun k => a.eval (.tmp k)) ls b
  have ht : a.tmps = (fill (fun k => a.eval (.tmp k)) ls b).tmps := by
    apply Array.ext
    · rw [s1, h.sz]
    · intro k h1 h2
      have hk : k < b.tmps.size := by rw [← h.sz]; exact h1
      have h3 := fill_eval (fun k => a.eval (.tmp k)) k ls b hk
      have e1 : a.tmps[k] = a.eval (.tmp k) := by simp [Act.eval, h1]
      have e2 : ∀ (c : Act) (h : k < c.tmps.size), c.tmps[k] = c.eval (.tmp k) := fun c h => by simp [Act.eval, h]
      rw [e1, e2, h3]
      cases hc : ls.contains k
      · exact (h.at_ k).2 hc
      · rfl
  have hd : a.defers = (fill (fun k => a.eval (.tmp k)) ls b).defers := by rw [s2, h.de]
  generalize fill (fun k => a.eval (.tmp k)) ls b = c at *
  cases a
  cases c
  simp only at ht hd
  rw [ht, hd]
theorem wpLoud_end {Φ : Act → World → Prop} {b : Act} (need : List Tmp) (hn : (need.all fun k => ls.contains k && isTok (b.eval (.tmp k))) = true)
    (h : ∀ (g : Tmp → Value) (x : Ext Z), (∀ k ∈ need, V k (g k) x.wd) → Φ (fill g ls b) x.wd) : wpLoud P ops Z ls V (fun b => ∀ a' w', Below Z.heap.size Z w' → Sim ls V b a' w' → Φ a' w') [] b := by
  intro a' w' hb hs
  rw [hs.filled]
  refine h _ ⟨w', hb⟩ fun k hk => ?_
  have h1 := List.all_eq_true.1 hn k hk
  rw [Bool.and_eq_true] at h1
  exact (hs.at_ k).1 h1.1 (isTok_eq h1.2)
/-! steps -/
variable {Q : Act → Prop} {b : Act} {o : Oper} {rest : List Oper}
theorem wpLoud_skip (hw : Region.wanted o (yielded ops b.tmps) = false) (b' : Act) (hb : b.put o.dst undef = b') (h : wpLoud P ops Z ls V Q rest b') : wpLoud P ops Z ls V Q (o :: rest) b := by
  subst hb
  unfold wpLoud
  rw [if_neg (by rw [hw]; exact Bool.false_ne_true)]
  exact h
def plainOp : Op → Bool
  | .move _ | .assign _ | .pick _ _ _ | .load _ _ | .binOp _ _ _ _ _ | .unOp _ _ _ | .convert _ _ _ | .fieldAddr _ _ _ | .indexAddr _ _ _ | .extract _ _ | .slice _ _ _ _ _ | .index _ _ _ | .field _ _ _ => true
  | _ => false
def quietB (ops : Array Oper) (ls : List Tmp) (o : Oper) : Bool := (o.looksAt ops).all (fun k => !ls.contains k) && (match o.dst with | some d => !ls.contains d | none => true)
theorem notEnter {α : Type} (s : Sem α) (g : α → Value) (w w' : World) (f : FuncId) (args : Array Value) : ((do pure (.value (g (← s))) : Sem Next)).run P w ≠ .ok (.enter f args) w' := by
  rw [Sem.run_bind]
  cases s.run P w with
  | ok u w1 => simp [Result.andThen]
  | halt x w1 => simp [Result.andThen]
theorem plain_run {ρ : Operand → Value} (hp : plainOp o.op = true) (w w' : World) (f : FuncId) (args : Array Value) : (execOp ρ o).run P w ≠ .ok (.enter f args) w' := by
  obtain ⟨dst, op, type, pos, after, guard⟩ := o
  cases op <;> simp only [plainOp] at hp <;> (try cases hp)
  case move x => simp [execOp]
  case assign x => simp [execOp]
  case pick c x y => exact notEnter (asBool (ρ c)) (fun t => if t then ρ x else ρ y) w w' f args
  all_goals exact notEnter _ (fun t => t) w w' f args
theorem simAt_eval {b a : Act} {w : World} (hq : quietB ops ls o = true) (hs : ∀ k ∈ o.looksAt ops, SimAt ls V b a w k) : ∀ x ∈ o.op.operands, a.eval x = b.eval x := fun x hx => by
  unfold quietB at hq
  rw [Bool.and_eq_true] at hq
  cases x with
  | tmp k =>
    have hk : k ∈ o.looksAt ops := List.mem_append_left _ (List.mem_filterMap.2 ⟨.tmp k, by simpa using hx, rfl⟩)
    have h1 := List.all_eq_true.1 hq.1 k hk
    exact (hs k hk).2 (by simpa using h1)
  | const v => rfl
  | global v => rfl
  | func v => rfl
theorem quietB_dst (hq : quietB ops ls o = true) : ∀ d, o.dst = some d → ls.contains d = false := fun d hd => by
  unfold quietB at hq
  rw [Bool.and_eq_true, hd] at hq
  simpa using hq.2
theorem wpLoud_val (hw : Region.wanted o (yielded ops b.tmps) = true) (hq : quietB ops ls o = true) (hsel : ∀ cs t, o.op ≠ .select cs t) (v : Value) (hr : ∀ x : Ext Z, (execOp b.eval o).run P x.wd = .ok (.value v) x.wd)
    (b' : Act) (hb : b.put o.dst v = b') (h : wpLoud P ops Z ls V Q rest b') : wpLoud P ops Z ls V Q (o :: rest) b := by
  subst hb
  unfold wpLoud
  rw [if_pos hw]
  refine ⟨v, fun a w hC hs => ?_, h⟩
  rw [execOp_congr o hsel (simAt_eval hq hs), show (execOp b.eval o).run P w = .ok (.value v) w from hr ⟨w, hC⟩]
  exact .inl ⟨rfl, rfl, quietB_dst hq⟩
theorem wpLoud_plain (hw : Region.wanted o (yielded ops b.tmps) = true) (hq : quietB ops ls o = true) (hp : plainOp o.op = true)
    (h : ∀ K : Act → Prop, (∀ b, wpLoud P ops Z ls V Q rest b → K b) → o.quiet P b (fun w => ∃ x : Ext Z, w = x.wd) K) : wpLoud P ops Z ls V Q (o :: rest) b := by
  unfold wpLoud
  rw [if_pos hw]
  obtain ⟨v, h1, h2⟩ := h _ (fun _ h => h)
  refine ⟨v, fun a w hC hs => ?_, h2⟩
  have hsel : ∀ cs t, o.op ≠ .select cs t := fun cs t he => by rw [he] at hp; cases hp
  have h3 := h1 w ⟨⟨w, hC⟩, rfl⟩
  rw [execOp_congr o hsel (simAt_eval hq hs)]
  unfold Oper.quietAt at h3
  have hne := plain_run (P := P) (ρ := b.eval) hp w
  have hnk : ∀ w', (execOp b.eval o).run P w ≠ .ok .skip w' := by
    obtain ⟨dst, op, type, pos, after, guard⟩ := o
    have key : ∀ {α : Type} (s : Sem α) (g : α → Value) (w' : World), ((do pure (.value (g (← s))) : Sem Next)).run P w ≠ .ok .skip w' := by
      intro α s g w'
      rw [Sem.run_bind]
      cases s.run P w with
      | ok u w1 => simp [Result.andThen]
      | halt x w1 => simp [Result.andThen]
    intro w'
    cases op <;> simp only [plainOp] at hp <;> (try cases hp)
    case move x => simp [execOp]
    case assign x => simp [execOp]
    case pick c x y => exact key (asBool (b.eval c)) (fun t => if t then b.eval x else b.eval y) w'
    all_goals exact key _ (fun t => t) w'
  generalize (execOp b.eval o).run P w = r at *
  cases r with
  | ok n w' =>
    cases n <;> simp only [Oper.quietUpon] at h3
    case value u => exact .inl ⟨h3.1, h3.2, quietB_dst hq⟩
    case skip => exact absurd rfl (hnk w')
    case enter f args => exact absurd rfl (hne w' f args)
  | halt x w' => simp only [Oper.quietUpon] at h3
theorem wpLoud_load (hw : Region.wanted o (yielded ops b.tmps) = true) (hq : quietB ops ls o = true) (ty : TypeId) (x : Operand) (ho : o.op = .load ty x) (n off : Nat) (hx : b.eval x = .pointer (some ⟨n, off, none⟩)) (cs : List Value) (d : TypeDesc)
    (hc : ∀ y : Ext Z, y.wd.rangeAt n off cs) (hu : P.underlying ty = some d) (hd : d.isRow = true) (hi : (P.info? ty).map (·.size) = some cs.length)
    (b' : Act) (hb : b.put o.dst (.agg cs.toArray) = b') (h : wpLoud P ops Z ls V Q rest b') : wpLoud P ops Z ls V Q (o :: rest) b :=
  wpLoud_val hw hq (fun cs t he => by rw [ho] at he; cases he) _ (fun y => by
    unfold execOp
    simp only [ho, hx, Instr.loadAt, Instr.sureAddr, Sem.run_bind, Sem.run_pure, Result.andThen_ok, run_loadVar_mid y.wd n off ty cs d (hc y) hu hd hi]) b' hb h
/-- an operation that makes memory -/
theorem wpLoud_make (hw : Region.wanted o (yielded ops b.tmps) = true) (hsel : ∀ cs t, o.op ≠ .select cs t) (hq : ((o.looksAt ops).all fun k => !ls.contains k) = true) (d : Tmp) (hd : o.dst = some d) (hl : ls.contains d = true)
    (hr : ∀ x : Ext Z, ∃ u w', (execOp b.eval o).run P x.wd = .ok (.value u) w' ∧ Below x.wd.heap.size x.wd w' ∧ V d u w')
    (b' : Act) (hb : b.put o.dst tok = b') (h : wpLoud P ops Z ls V Q rest b') : wpLoud P ops Z ls V Q (o :: rest) b := by
  subst hb
  unfold wpLoud
  rw [if_pos hw]
  refine ⟨tok, fun a w hC hs => ?_, h⟩
  have he : ∀ x ∈ o.op.operands, a.eval x = b.eval x := fun x hx => by
    cases x with
    | tmp k =>
      have hk : k ∈ o.looksAt ops := List.mem_append_left _ (List.mem_filterMap.2 ⟨.tmp k, by simpa using hx, rfl⟩)
      exact (hs k hk).2 (by simpa using List.all_eq_true.1 hq k hk)
    | const v => rfl
    | global v => rfl
    | func v => rfl
  obtain ⟨u, w', h1, h2, h3⟩ := hr ⟨w, hC⟩
  rw [execOp_congr o hsel he, show (execOp b.eval o).run P w = .ok (.value u) w' from h1]
  exact .inr ⟨h2, fun d' hd' => by rw [hd] at hd'; injection hd' with hd'; subst hd'; exact ⟨hl, h3⟩⟩
/-- what a loud call handed back, moved -/
theorem wpLoud_move (hw : Region.wanted o (yielded ops b.tmps) = true) (k d : Tmp) (ho : o.op = .assign (.tmp k) ∨ o.op = .move (.tmp k)) (hd : o.dst = some d) (hk : ls.contains k = true) (hl : ls.contains d = true) (ht : isTok (b.eval (.tmp k)) = true) (hV : ∀ u w, V k u w → V d u w)
    (b' : Act) (hb : b.put o.dst tok = b') (h : wpLoud P ops Z ls V Q rest b') : wpLoud P ops Z ls V Q (o :: rest) b := by
  subst hb
  unfold wpLoud
  rw [if_pos hw]
  refine ⟨tok, fun a w hC hs => ?_, h⟩
  have hrun : (execOp a.eval o).run P w = .ok (.value (a.eval (.tmp k))) w := by
    rcases ho with ho | ho <;> · unfold execOp; simp only [ho, Sem.run_pure]
  have hm : k ∈ o.looksAt ops := by
    unfold Oper.looksAt
    rcases ho with ho | ho <;> · rw [ho]; simp [Op.operands]
  have hv := (hs k hm).1 hk (isTok_eq ht)
  rw [hrun]
  exact .inr ⟨Below.refl _ _, fun d' hd' => by rw [hd] at hd'; injection hd' with hd'; subst hd'; exact ⟨hl, hV _ _ hv⟩⟩
theorem wpLoud_loadB (hw : Region.wanted o (yielded ops b.tmps) = true) (hq : quietB ops ls o = true) (ty : TypeId) (x : Operand) (ho : o.op = .load ty x) (n off : Nat) (hx : b.eval x = .pointer (some ⟨n, off, none⟩)) (cs : Array Value) (d : TypeDesc)
    (hc : ∀ y : Ext Z, y.wd.rangeAt n off cs.toList) (hu : P.underlying ty = some d) (hd : d.isRow = true) (hi : (P.info? ty).map (·.size) = some cs.toList.length)
    (b' : Act) (hb : b.put o.dst (.agg cs) = b') (h : wpLoud P ops Z ls V Q rest b') : wpLoud P ops Z ls V Q (o :: rest) b :=
  wpLoud_load hw hq ty x ho n off hx cs.toList d hc hu hd hi b' (by rw [Array.toArray_toList]; exact hb) h
def over (ls : List Tmp) (b : Act) (g : Tmp → Value) : Operand → Value
  | .tmp k => if ls.contains k then g k else b.eval (.tmp k)
  | x => b.eval x
/-- a call, by its contract -/
theorem wpLoud_call (d : Tmp) (hd : o.dst = some d) (need : List Tmp) (v : Value) (f : FuncId) (args : (Tmp → Value) → Array Value) (hw : Region.wanted o (yielded ops b.tmps) = true) (hsel : ∀ cs t, o.op ≠ .select cs t)
    (hn : (need.all fun k => ls.contains k && ((o.looksAt ops).contains k && isTok (b.eval (.tmp k)))) = true)
    (hrun : ∀ (g : Tmp → Value) w, (execOp (over ls b g) o).run P w = .ok (.enter f (args g)) w)
    (hc : ∀ (g : Tmp → Value) (x : Ext Z), (∀ k ∈ need, V k (g k) x.wd) → Calls P f (args g) x.wd fun e w'' => ∃ u, e = .returned u ∧ Below x.wd.heap.size x.wd w'' ∧ (if ls.contains d then V d u w'' else u = v))
    (b' : Act) (hb : b.put o.dst v = b') (h : wpLoud P ops Z ls V Q rest b') : wpLoud P ops Z ls V Q (o :: rest) b := by
  subst hb
  unfold wpLoud
  rw [if_pos hw]
  refine ⟨v, fun a w hC hs => ?_, h⟩
  have he : ∀ x ∈ o.op.operands, a.eval x = over ls b (fun k => a.eval (.tmp k)) x := fun x hx => by
    cases x with
    | tmp k =>
      have hk : k ∈ o.looksAt ops := List.mem_append_left _ (List.mem_filterMap.2 ⟨.tmp k, by simpa using hx, rfl⟩)
      show _ = if ls.contains k then _ else _
      cases hcn : ls.contains k
      · exact (hs k hk).2 hcn
      · rfl
    | const v => rfl
    | global v => rfl
    | func v => rfl
  rw [execOp_congr o hsel he, hrun]
  refine ⟨rfl, (hc _ ⟨w, hC⟩ fun k hk => ?_).mono ?_⟩
  · have h1 := List.all_eq_true.1 hn k hk
    simp only [Bool.and_eq_true] at h1
    exact (hs k (by simpa using h1.2.1)).1 h1.1 (isTok_eq h1.2.2)
  · rintro e w'' ⟨u, h1, h2, h3⟩
    refine ⟨u, h1, h2, fun d' hd' => ?_⟩
    rw [hd] at hd'
    injection hd' with hd'
    subst hd'
    exact ⟨fun h4 => by rwa [if_pos h4] at h3, fun h4 => by rwa [if_neg (by rw [h4]; exact Bool.false_ne_true)] at h3⟩
end
end Go.Proofs.Ytihbjnjpomljjaa
/- Common: laws for lists and regions. -/
namespace Go.Proofs.Ytihbjnjpomljjaa
set_option maxRecDepth 100000
open Go.RowKit
set_option linter.unusedVariables false
set_option linter.unusedSimpArgs false
theorem cell_ext {Z : World} {a : Addr} {v : Value} (h : Z.cell? a = some v) : ∀ x : Ext Z, x.wd.cell? a = some v := fun x => x.cell h
theorem run_built (w : World) (t : TypeId) (parts : List (Nat × Value)) (cells : Array Value) (hf : Try.prog.built t parts = some cells) {o : Oper} {a : Act} (ps : Array (Nat × Operand)) (ho : o.op = .build t ps) (hp : (ps.map fun (i, x) => (i, a.eval x)).toList = parts) :
    (execOp a.eval o).run Try.prog w = .ok (.value (.agg cells)) w := by
  subst hp
  unfold execOp
  simp only [ho, Sem.run_bind, run_build w t _ cells hf, Result.andThen_ok]
  rfl
section
variable {P : Program} {ops : Array Oper} {Q : Exit → Act → World → Prop}
theorem wpList_valG {ops : Array Oper} {rest : List Oper} {o : Oper} {a : Act} {w : World} {Q : Exit → Act → World → Prop} (hw : Region.wanted o (yielded ops a.tmps) = true) (v : Value) (hr : (execOp a.eval o).run P w = .ok (.value v) w)
    (h : wpList P ops Q rest (a.put o.dst v) w) : wpList P ops Q (o :: rest) a w :=
  wpList_step fun K hK => by
    rw [if_pos hw]
    unfold Oper.wp
    rw [hr]
    exact hK _ _ h
theorem wpList_loadG {ops : Array Oper} {rest : List Oper} {o : Oper} {a : Act} {w : World} {Q : Exit → Act → World → Prop} (hw : Region.wanted o (yielded ops a.tmps) = true) (ty : TypeId) (x : Operand) (ho : o.op = .load ty x) (n off : Nat) (hx : a.eval x = .pointer (some ⟨n, off, none⟩)) (cs : List Value) (d : TypeDesc)
    (hc : w.rangeAt n off cs) (hu : P.underlying ty = some d) (hd : d.isRow = true) (hi : (P.info? ty).map (·.size) = some cs.length)
    (h : wpList P ops Q rest (a.put o.dst (.agg cs.toArray)) w) : wpList P ops Q (o :: rest) a w :=
  wpList_valG hw _ (by
    unfold execOp
    simp only [ho, hx, Instr.loadAt, Instr.sureAddr, Sem.run_bind, Sem.run_pure, Result.andThen_ok, run_loadVar_mid w n off ty cs d hc hu hd hi]) h
theorem wpList_valM {rest : List Oper} {o : Oper} {a : Act} {w : World} (hw : Region.wanted o (yielded ops a.tmps) = true) (v : Value) (w' : World) (hr : (execOp a.eval o).run P w = .ok (.value v) w')
    (h : wpList P ops Q rest (a.put o.dst v) w') : wpList P ops Q (o :: rest) a w :=
  wpList_step fun K hK => by
    rw [if_pos hw]
    unfold Oper.wp
    rw [hr]
    exact hK _ _ h
end
end Go.Proofs.Ytihbjnjpomljjaa
/- Contracts: comparisons of numbers and texts. -/
namespace Go.Proofs.Ytihbjnjpomljjaa
set_option maxRecDepth 100000
open Go.RowKit
set_option linter.unusedVariables false
set_option linter.unusedSimpArgs false
def cmpI (x y : Int) : Int := if x < y then -1 else if y < x then 1 else 0
def cmpS (a b : ByteArray) : Int := if ltS a b then -1 else if ltS b a then 1 else 0
theorem nan_i64 (x : Int) (w : World) : Calls Try.prog 26 #[.int .i64 x] w fun e w' => e = .returned (.bool false) ∧ w = w' := by
  have t0 : (x != x) = false := by simp
  go_enter Try.func26, Try.ntmps26
  go_wp2
  go_ret
  exact ⟨rfl, rfl⟩
theorem cmp_i64 (x y : Int) (w : World) : Calls Try.prog 18 #[.int .i64 x, .int .i64 y] w fun e w' => e = .returned (.int .i64 (cmpI x y)) ∧ w = w' := by
  unfold cmpI
  by_cases h1 : x < y
  · rw [if_pos h1]
    have d1 : decide (x < y) = true := decide_eq_true h1
    clear h1
    go_enter Try.func18, Try.ntmps18
    go_wp2_with (go_at_call 26; (refine (nan_i64 _ _).mono ?_); rintro e w' ⟨rfl, rfl⟩)
    go_ret
    exact ⟨rfl, rfl⟩
  · rw [if_neg h1]
    have d1 : decide (x < y) = false := decide_eq_false h1
    by_cases h2 : y < x
    · rw [if_pos h2]
      have d2 : decide (y < x) = true := decide_eq_true h2
      clear h1 h2
      go_enter Try.func18, Try.ntmps18
      go_wp2_with (go_at_call 26; (refine (nan_i64 _ _).mono ?_); rintro e w' ⟨rfl, rfl⟩)
      go_ret
      exact ⟨rfl, rfl⟩
    · rw [if_neg h2]
      have d2 : decide (y < x) = false := decide_eq_false h2
      clear h1 h2
      go_enter Try.func18, Try.ntmps18
      go_wp2_with (go_at_call 26; (refine (nan_i64 _ _).mono ?_); rintro e w' ⟨rfl, rfl⟩)
      go_ret
      exact ⟨rfl, rfl⟩
theorem nan_u64 (x : Int) (w : World) : Calls Try.prog 32 #[.int .u64 x] w fun e w' => e = .returned (.bool false) ∧ w = w' := by
  have t0 : (x != x) = false := by simp
  go_enter Try.func32, Try.ntmps32
  go_wp2
  go_ret
  exact ⟨rfl, rfl⟩
theorem cmp_u64 (x y : Int) (w : World) : Calls Try.prog 24 #[.int .u64 x, .int .u64 y] w fun e w' => e = .returned (.int .i64 (cmpI x y)) ∧ w = w' := by
  unfold cmpI
  by_cases h1 : x < y
  · rw [if_pos h1]
    have d1 : decide (x < y) = true := decide_eq_true h1
    clear h1
    go_enter Try.func24, Try.ntmps24
    go_wp2_with (go_at_call 32; (refine (nan_u64 _ _).mono ?_); rintro e w' ⟨rfl, rfl⟩)
    go_ret
    exact ⟨rfl, rfl⟩
  · rw [if_neg h1]
    have d1 : decide (x < y) = false := decide_eq_false h1
    by_cases h2 : y < x
    · rw [if_pos h2]
      have d2 : decide (y < x) = true := decide_eq_true h2
      clear h1 h2
      go_enter Try.func24, Try.ntmps24
      go_wp2_with (go_at_call 32; (refine (nan_u64 _ _).mono ?_); rintro e w' ⟨rfl, rfl⟩)
      go_ret
      exact ⟨rfl, rfl⟩
    · rw [if_neg h2]
      have d2 : decide (y < x) = false := decide_eq_false h2
      clear h1 h2
      go_enter Try.func24, Try.ntmps24
      go_wp2_with (go_at_call 32; (refine (nan_u64 _ _).mono ?_); rintro e w' ⟨rfl, rfl⟩)
      go_ret
      exact ⟨rfl, rfl⟩
theorem nan_u16 (x : Int) (w : World) : Calls Try.prog 33 #[.int .u16 x] w fun e w' => e = .returned (.bool false) ∧ w = w' := by
  have t0 : (x != x) = false := by simp
  go_enter Try.func33, Try.ntmps33
  go_wp2
  go_ret
  exact ⟨rfl, rfl⟩
theorem cmp_u16 (x y : Int) (w : World) : Calls Try.prog 25 #[.int .u16 x, .int .u16 y] w fun e w' => e = .returned (.int .i64 (cmpI x y)) ∧ w = w' := by
  unfold cmpI
  by_cases h1 : x < y
  · rw [if_pos h1]
    have d1 : decide (x < y) = true := decide_eq_true h1
    clear h1
    go_enter Try.func25, Try.ntmps25
    go_wp2_with (go_at_call 33; (refine (nan_u16 _ _).mono ?_); rintro e w' ⟨rfl, rfl⟩)
    go_ret
    exact ⟨rfl, rfl⟩
  · rw [if_neg h1]
    have d1 : decide (x < y) = false := decide_eq_false h1
    by_cases h2 : y < x
    · rw [if_pos h2]
      have d2 : decide (y < x) = true := decide_eq_true h2
      clear h1 h2
      go_enter Try.func25, Try.ntmps25
      go_wp2_with (go_at_call 33; (refine (nan_u16 _ _).mono ?_); rintro e w' ⟨rfl, rfl⟩)
      go_ret
      exact ⟨rfl, rfl⟩
    · rw [if_neg h2]
      have d2 : decide (y < x) = false := decide_eq_false h2
      clear h1 h2
      go_enter Try.func25, Try.ntmps25
      go_wp2_with (go_at_call 33; (refine (nan_u16 _ _).mono ?_); rintro e w' ⟨rfl, rfl⟩)
      go_ret
      exact ⟨rfl, rfl⟩
theorem nan_s (a : ByteArray) (w : World) : Calls Try.prog 37 #[.string a] w fun e w' => e = .returned (.bool false) ∧ w = w' := by
  go_enter Try.func37, Try.ntmps37
  go_wp2
  go_ret
  exact ⟨by simp, rfl⟩
theorem cmp_s (a b : ByteArray) (w : World) : Calls Try.prog 30 #[.string a, .string b] w fun e w' => e = .returned (.int .i64 (cmpS a b)) ∧ w = w' := by
  unfold cmpS ltS
  by_cases h1 : Op.bytesLess a.toList b.toList = true
  · rw [if_pos h1]
    go_enter Try.func30, Try.ntmps30
    go_wp2_with (go_at_call 37; (refine (nan_s _ _).mono ?_); rintro e w' ⟨rfl, rfl⟩)
    go_ret
    exact ⟨rfl, rfl⟩
  · rw [if_neg h1]
    have h1' : Op.bytesLess a.toList b.toList = false := by simpa using h1
    clear h1
    by_cases h2 : Op.bytesLess b.toList a.toList = true
    · rw [if_pos h2]
      have h3 : (a.toList == b.toList) = false := by
        rw [beq_eq_false_iff_ne]
        intro he
        rw [he, bless_irr] at h2
        cases h2
      go_enter Try.func30, Try.ntmps30
      go_wp2_with (go_at_call 37; (refine (nan_s _ _).mono ?_); rintro e w' ⟨rfl, rfl⟩)
      go_ret
      exact ⟨rfl, rfl⟩
    · rw [if_neg h2]
      have h3 : (a.toList == b.toList) = true := by
        rw [beq_iff_eq]
        by_cases he : a.toList = b.toList
        · exact he
        · exact absurd (bless_tri _ _ he h1') h2
      clear h2
      go_enter Try.func30, Try.ntmps30
      go_wp2_with (go_at_call 37; (refine (nan_s _ _).mono ?_); rintro e w' ⟨rfl, rfl⟩)
      go_ret
      exact ⟨rfl, rfl⟩
end Go.Proofs.Ytihbjnjpomljjaa
