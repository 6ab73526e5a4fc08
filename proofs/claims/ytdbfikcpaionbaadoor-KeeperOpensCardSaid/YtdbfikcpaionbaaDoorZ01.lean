/- Parts, one behind the other: Kit Lift Sha0 ShaA ShaF ShaC LiftL Open Eq OpenK App OpenR OpKp Plain0 Plain1 Plain2. -/
import Derived.Test.YtdbfikcpaionbaaDoorRows
import Derived.WalkKit
import Derived.Deep.Draws
import Derived.Deep.QuietTactic
import Derived.BigQuiet
import Derived.ProofKit
import Derived.OpenShut
import Derived.ShutString
import Derived.ChangeOld
import Derived.Below
import Derived.LaidMore
import Derived.Lib.LaidTab
import Derived.MakeChecks
import Derived.Stop.Joined
import Derived.DeepKeys
import Derived.Laws.StructEq
import Derived.Maps.AppendAt
import Derived.Laws.AppendOwnNone
import Derived.Deep.AppendLies
import Derived.OwnWalk
import Derived.DataElems
import Derived.Laws.BitsAllLaws
/- Small laws on worlds: a block that is known whole. -/
namespace Go.Proofs.YtdbfikcpaionbaaDoor
set_option maxRecDepth 100000
open Go.RowKit
theorem cellOf {w : World} {B i : Nat} {cs : Array Value} {T : TypeId} {fz : Nat × Nat} {v : Value} (h : w.heap[B]? = some (.cells cs T fz)) (hv : cs[i]? = some v) : w.cell? ⟨B, i, none⟩ = some v := by
  simp [World.cell?, h, hv]
theorem freeOf {w : World} {B i : Nat} {cs : Array Value} {T : TypeId} (h : w.heap[B]? = some (.cells cs T (0, 0))) : w.frozen? ⟨B, i, none⟩ = false := by
  simp [World.frozen?, h]
theorem heapSet {w : World} {B i : Nat} {cs : Array Value} {T : TypeId} {fz : Nat × Nat} (v : Value) (h : w.heap[B]? = some (.cells cs T fz)) : (w.setCell ⟨B, i, none⟩ v).heap[B]? = some (.cells (cs.setIfInBounds i v) T fz) := by
  simp only [World.setCell, Array.getElem?_modify, if_true, h]; rfl
theorem heapSize_set (w : World) (a : Addr) (v : Value) : (w.setCell a v).heap.size = w.heap.size := by simp [World.setCell]
theorem heapDrew (w : World) : w.drew.heap = w.heap := rfl
theorem heapDrewN (w : World) (n : Nat) : (w.drewN n).heap = w.heap := rfl
theorem heapNew (w : World) (o : Obj) : (w.alloc o).heap[w.heap.size]? = some o := by
  show (w.heap.push o)[w.heap.size]? = some o
  simp
theorem belowDrewN {B : Nat} {a w : World} (n : Nat) (h : Below B a w) : Below B a (w.drewN n) := ⟨h.os, h.tape, h.output, h.size, h.block⟩
theorem u8_of_i64 {n m : Int} (h : n = m) : Value.int .u8 n = Value.int .u8 m := by rw [h]
theorem add_block (a : Addr) (n : Nat) : (a.add n).block = a.block := by unfold Addr.add; split <;> rfl
/-- from this address on lie these cells, below block B; nothing is said of the address of no cells -/
def Rd (w : World) (B : Nat) (A : Option Addr) (xs : List Value) : Prop :=
  xs ≠ [] → ∃ ad, A = some ad ∧ ad.block < B ∧ ∀ (j : Nat) (u : Value), xs[j]? = some u → w.cell? (ad.add j) = some u
theorem Rd.nil_ (w : World) (B : Nat) (A : Option Addr) : Rd w B A [] := fun h => absurd rfl h
theorem Rd.keep {w w' : World} {B : Nat} {A : Option Addr} {xs : List Value} (h : Rd w B A xs) (hk : ∀ p : Addr, p.block < B → w'.cell? p = w.cell? p) : Rd w' B A xs := fun hn => by
  obtain ⟨ad, e, hb, hc⟩ := h hn
  exact ⟨ad, e, hb, fun j u hu => (hk _ (by rw [add_block]; exact hb)).trans (hc j u hu)⟩
theorem Rd.below {w w' : World} {B : Nat} {A : Option Addr} {xs : List Value} (h : Rd w B A xs) (hb : Below B w w') : Rd w' B A xs := h.keep fun _ hp => hb.cell hp
theorem Rd.more {w : World} {B B' : Nat} {A : Option Addr} {xs : List Value} (h : Rd w B A xs) (hB : B ≤ B') : Rd w B' A xs := fun hn => by
  obtain ⟨ad, e, hb, hc⟩ := h hn
  exact ⟨ad, e, by omega, hc⟩
/-- numbers as bytes -/
def byt (l : List Nat) : List Value := l.map fun (n : Nat) => Value.int .u8 (n : Int)
theorem byt_len (l : List Nat) : (byt l).length = l.length := by simp [byt]
theorem byt_at {l : List Nat} {k : Nat} (h : k < l.length) : (byt l)[k]? = some (.int .u8 (l.getD k 0 : Nat)) := by
  simp [byt, h, List.getD_eq_getElem?_getD]
theorem Rd.byte {w : World} {B : Nat} {A : Option Addr} {l : List Nat} (h : Rd w B A (byt l)) {k : Nat} (hk : k < l.length) :
    ∃ ad, A = some ad ∧ ad.block < B ∧ w.cell? (ad.add k) = some (.int .u8 (l.getD k 0 : Nat)) := by
  obtain ⟨ad, e, hb, hc⟩ := h (fun h0 => by have := byt_len l; rw [h0] at this; simp at this; omega)
  exact ⟨ad, e, hb, hc k _ (byt_at hk)⟩
theorem getD_lt {l : List Nat} (h : ∀ c ∈ l, c < 256) (k : Nat) : l.getD k 0 < 256 := by
  rw [List.getD_eq_getElem?_getD]
  rcases Nat.lt_or_ge k l.length with hk | hk
  · rw [List.getElem?_eq_getElem hk]; exact h _ (List.getElem_mem _)
  · rw [List.getElem?_eq_none hk]; simp
theorem drop_lt {l : List Nat} (h : ∀ c ∈ l, c < 256) (k : Nat) : ∀ c ∈ l.drop k, c < 256 := fun c hc => h c (List.mem_of_mem_drop hc)
/-- a region that draws its order, each operation quiet in a class of worlds 'W x' -/
theorem wp_region_class {P : Program} {Om : Type} (W : Om → World) {id : Nat} {Q : Exit → Act → World → Prop} {a : Act} {w : World} {l : List Oper} (hm : P.follows .mixedOrders = true) (hB : Region.lexB .any l.toArray = true) (hC : ∃ x, w.drew = W x)
    (h : wpQuiet P l.toArray (fun w' => ∃ x, w' = W x) (fun a' => ∀ w', (∃ x, w' = W x) → Q .normal a' w') l a) : (Code.region id l.toArray true).wp P Q a w :=
  wp_region_quiet (C := fun w' => ∃ x, w' = W x) hm hB hC (by simpa using h)
/-- the worlds that extend w0 -/
def Ext (w0 : World) : Type := { w : World // Below w0.heap.size w0 w }
instance Ext.some_ {w0 : World} : Nonempty (Ext w0) := ⟨⟨w0, Below.refl _ _⟩⟩
def Ext.wd {w0 : World} (x : Ext w0) : World := x.1
theorem Ext.of {w0 w : World} (h : Below w0.heap.size w0 w) : ∃ x : Ext w0, w = x.wd := ⟨⟨w, h⟩, rfl⟩
theorem Ext.bel {w0 : World} (x : Ext w0) : Below w0.heap.size w0 x.wd := x.2
theorem Ext.cell {w0 : World} (x : Ext w0) {a : Addr} {v : Value} (h : w0.cell? a = some v) : x.wd.cell? a = some v := by
  have hb : a.block < w0.heap.size := by
    rcases Nat.lt_or_ge a.block w0.heap.size with h1 | h1
    · exact h1
    · simp [World.cell?, Array.getElem?_eq_none h1] at h
  exact (x.2.cell hb).trans h
/-- a callee that makes memory, but hands back a plain value -/
theorem ext_call {P : Program} {f : FuncId} {args : Array Value} {w0 : World} {x : Ext w0} {v : Value}
    (h : Calls P f args x.wd fun e w' => e = .returned v ∧ Below x.wd.heap.size x.wd w') : Calls P f args x.wd fun e w'' => e = .returned v ∧ ∃ y : Ext w0, w'' = y.wd :=
  h.mono fun _ _ ⟨he, hb⟩ => ⟨he, Ext.of (x.2.trans (hb.mono x.2.size))⟩
theorem ext_quiet {P : Program} {f : FuncId} {args : Array Value} {w0 : World} {x : Ext w0} {v : Value}
    (h : Calls P f args x.wd fun e w' => e = .returned v ∧ ∃ n, w' = x.wd.drewN n) : Calls P f args x.wd fun e w'' => e = .returned v ∧ ∃ y : Ext w0, w'' = y.wd :=
  h.mono fun _ _ ⟨he, n, hb⟩ => ⟨he, Ext.of (hb ▸ belowDrewN n x.2)⟩
theorem ext_same {P : Program} {f : FuncId} {args : Array Value} {w0 : World} {x : Ext w0} {v : Value}
    (h : Calls P f args x.wd fun e w' => e = .returned v ∧ x.wd = w') : Calls P f args x.wd fun e w'' => e = .returned v ∧ ∃ y : Ext w0, w'' = y.wd :=
  h.mono fun _ _ ⟨he, hb⟩ => ⟨he, x, hb.symm⟩
/-- what a law's walk shows -/
def Yes (w : World) (e : Ending) (w' : World) : Prop := e = .returned (.bool true) ∧ Below w.heap.size w w'
end Go.Proofs.YtdbfikcpaionbaaDoor
/- From a law's walk (it returns true, and nothing that was there has turned) to the law's row. -/
namespace Go.Proofs.YtdbfikcpaionbaaDoor
set_option maxRecDepth 100000
open Go.ChangeShapes Go.WideShapes Go.ChangeAt Go.RowKit
theorem own : ownKnob Tryd.prog.godebug = none := by kernel_rfl
theorem laidOut : laidOutB Tryd.prog = true := by kernel_rfl
theorem trodAll_below {H : Type} {enc : TypeId × Value → H} {P : Program} (hl : laidOutB P = true) {W W' : World} (hb : Below W.heap.size W W') :
    ∀ (ts : List TypeId) (vs : List Value) (ds : List (DataW H)) (ps : List MemPlace), (∀ t ∈ ts, P.readableRec t = true ∧ t < P.types.size) →
      DataW.TrodAll enc P W 0 (fun _ => true) true ts vs ds ps → (∀ x ∈ ps, x.block < W.heap.size) →
      DataW.TrodAll enc P W' 0 (fun b => decide (b < W.heap.size)) true ts vs ds ps
  | [], vs, ds, ps, _, h, _ => by
    obtain ⟨rfl, rfl, rfl⟩ := trodAll_nil h
    exact trodAll_mk0
  | t :: ts, vs, ds, ps, ht, h, hlt => by
    obtain ⟨v0, vs0, d0, ds0, p0, q0, rfl, rfl, rfl, h0, r0⟩ := trodAll_cons h
    have h1 := ht t (by simp)
    exact trodAll_cons_mk (Below.trod hl h1.1 h1.2 h0 hb (fun x hx => hlt x (by simp [hx])))
      (trodAll_below hl hb ts vs0 ds0 q0 (fun t' h' => ht t' (by simp [h'])) r0 (fun x hx => hlt x (by simp [hx])))
theorem trodAll_length {H : Type} {enc : TypeId × Value → H} {P : Program} {W : World} {b : Nat} {sp : Nat → Bool} {hd : Bool} :
    ∀ (ts : List TypeId) (vs : List Value) (ds : List (DataW H)) (ps : List MemPlace), DataW.TrodAll enc P W b sp hd ts vs ds ps → ds.length = ts.length
  | [], vs, ds, ps, h => by
    obtain ⟨rfl, rfl, rfl⟩ := trodAll_nil h
    rfl
  | t :: ts, vs, ds, ps, h => by
    obtain ⟨v0, vs0, d0, ds0, p0, q0, rfl, rfl, rfl, h0, r0⟩ := trodAll_cons h
    simp [trodAll_length ts vs0 ds0 q0 r0]
/-- the law's specification: true, and the input as it was -/
def LawSpec (s : ChangeSpec) (n : Nat) : Prop := s.vars = [] ∧ ∀ (H : Type) (ds : List (DataW H)), ds.length = n → s.fn H ds = { results := [.lit (.bool true)], args := ds }
theorem lift {os : Os} (started : os.Started) {H : Type} {enc : TypeId × Value → H} (f : FuncId) {fn : Func} {s : ChangeSpec} {conds : List PathCond} (hconds : conds = [])
    (noInit : Tryd.checked.prog.inits.idxOf? f = none) (hfn : Tryd.checked.prog.funcs[f]? = some fn) (hs : LawSpec s fn.params.toList.length) (hres : fn.resultTypes = #[4])
    (hts : ∀ t ∈ fn.params.toList, Tryd.prog.readableRec t = true ∧ t < Tryd.prog.types.size)
    (witness : ∃ (w : World) (tape : Tape) (i : Input), w.os = os ∧ (w.forCall tape i).Shaped Tryd.checked.prog ∧ i.vars = [] ∧ Input.okWide Tryd.checked.prog (w.forCall tape i) .any w.heap.size f i ∧
      s.pre6 enc Tryd.checked.prog fn conds false (w.forCall tape i).memory i.args ∧ Assume.holds {} Tryd.checked.prog (lone (Frame.enter Tryd.checked.prog f i.args .normal) [] (w.forCall tape i)))
    (walk : ∀ (W : World) (base : Nat) (args : Array Value) (ds : List (DataW H)) (ps : List MemPlace),
      (∀ (j : Nat) t v, fn.params[j]? = some t → args[j]? = some v → Value.okWide Tryd.prog W .any base t v) →
      DataW.TrodAll enc Tryd.prog W 0 (fun _ => true) true fn.params.toList args.toList ds ps → (∀ x ∈ ps, x.block < W.heap.size) → Calls Tryd.prog f args W (Yes W)) :
    ReturnsInHanded {} Tryd.checked os f .any (s.pre6 enc Tryd.prog fn conds false) (s.post enc Tryd.prog fn false true false false) := by
  subst hconds
  refine returnsInHanded_of_change (C := Tryd.checked) own started noInit hfn witness ?_
  intro W base args ds gs before hval hW _ _
  have hW' := hW
  have hlt : ∀ p ∈ before, p.block < W.heap.size := fun p hp => hW.lt p hp
  obtain ⟨p, q, hA, hV, hbef, hfz, hnd⟩ := hW
  rw [hs.1] at hV
  obtain ⟨rfl, rfl⟩ := trodVars_none hV
  rw [List.append_nil] at hbef
  subst hbef
  refine (walk W base args ds _ hval hA hlt).mono fun e W' ⟨he, bel⟩ => ?_
  subst he
  have hlen := trodAll_length _ _ _ _ hA
  have hfn' := hs.2 H ds hlen
  refine ⟨_, rfl, ?_⟩
  refine ⟨ds, [], before, [], before, [], hW', ?_, ?_, ?_, bel.frame _, fun h => by cases h⟩
  · rw [List.append_nil, hfn', hres]
    exact trodAll_mk1 (shut_bool Tryd.underlying4 _)
  · rw [List.append_nil, hfn']
    exact trodAll_below laidOut bel _ _ _ _ hts hA hlt
  · rw [List.append_nil, hfn', hs.1]; rfl
theorem block_lt {w : World} {a : Addr} {v : Value} (h : w.cell? a = some v) : a.block < w.heap.size := by
  rcases Nat.lt_or_ge a.block w.heap.size with h1 | h1
  · exact h1
  · simp [World.cell?, Array.getElem?_eq_none h1] at h
/-- a []byte that came in -/
theorem open_bytes {H : Type} {enc : TypeId × Value → H} {W : World} {base : Nat} {v : Value} {d : DataW H} {p : List MemPlace} (hv : Value.okWide Tryd.prog W .any base 24 v)
    (h : DataW.Trod enc Tryd.prog W 0 (fun _ => true) true 24 v d p) :
    ∃ (A : Option Addr) (l : List Nat) (cap : Nat), v = .slice A l.length cap ∧ (∀ c ∈ l, c < 256) ∧ Rd W W.heap.size A (byt l) ∧ l.length ≤ maxLen := by
  obtain ⟨A, len, cap, rfl⟩ := okWide_slice Tryd.underlying24 hv
  obtain ⟨fuel, hf⟩ := h
  rcases open_ints Tryd.underlying24 Tryd.underlying5 (by kernel_rfl) hf with ⟨hcs, _⟩ | ⟨x, l, c, zs, hcs, _, hl, hm, hz, _, hcell, hwz⟩
  · simp [Value.cells] at hcs
    obtain ⟨rfl, rfl, rfl⟩ := hcs
    exact ⟨none, [], 0, rfl, by simp, Rd.nil_ _ _ _, by simp⟩
  · simp [Value.cells] at hcs
    obtain ⟨rfl, rfl, rfl⟩ := hcs
    have hz' : zs.length = cap := by simpa using hz
    have hlen : ((zs.take len).map Int.toNat).length = len := by simp; omega
    refine ⟨some x, (zs.take len).map Int.toNat, cap, by rw [hlen], ?_, ?_, by rw [hlen]; omega⟩
    · intro c hc
      obtain ⟨z, hz1, rfl⟩ := List.mem_map.1 hc
      have := bounds_u8 (hwz z (List.mem_of_mem_take hz1))
      omega
    · intro hne
      have h0 : 0 < len := by
        rcases Nat.eq_zero_or_pos len with h0 | h0
        · subst h0; simp [byt] at hne
        · exact h0
      have hc0 := hcell 0 (by omega)
      refine ⟨x, rfl, by have := block_lt hc0; rwa [add_block] at this, fun j u hu => ?_⟩
      have hj : j < len := by
        rcases Nat.lt_or_ge j len with h1 | h1
        · exact h1
        · rw [List.getElem?_eq_none (by rw [byt_len, hlen]; exact h1)] at hu; cases hu
      have hjz : j < zs.length := by omega
      rw [hcell j hjz]
      rw [byt_at (by rw [hlen]; exact hj)] at hu
      rw [← hu, List.getD_eq_getElem?_getD, List.getD_eq_getElem?_getD, List.getElem?_map, List.getElem?_take_of_lt hj, List.getElem?_eq_getElem hjz]
      have := bounds_u8 (hwz zs[j] (List.getElem_mem _))
      simp
      omega
end Go.Proofs.YtdbfikcpaionbaaDoor
/- Fingerprints: what they are, in plain words. -/
namespace Go.Proofs.YtdbfikcpaionbaaDoor
set_option linter.unusedVariables false
/-- a word turned to the right -/
def rotr (n k : Nat) : Nat := n / 2 ^ k + n % 2 ^ k * 2 ^ (32 - k)
def ad (a b : Nat) : Nat := (a + b) % 4294967296
def s0 (w : Nat) : Nat := rotr w 7 ^^^ rotr w 18 ^^^ w / 8
def s1 (w : Nat) : Nat := rotr w 17 ^^^ rotr w 19 ^^^ w / 1024
def b0 (a : Nat) : Nat := rotr a 2 ^^^ rotr a 13 ^^^ rotr a 22
def b1 (e : Nat) : Nat := rotr e 6 ^^^ rotr e 11 ^^^ rotr e 25
def chf (e f g : Nat) : Nat := (e &&& f) ^^^ ((4294967295 - e) &&& g)
def maj (a b c : Nat) : Nat := (a &&& b) ^^^ (a &&& c) ^^^ (b &&& c)
def be4 (l : List Nat) (i : Nat) : Nat := ((l.getD (4 * i) 0 * 256 + l.getD (4 * i + 1) 0) * 256 + l.getD (4 * i + 2) 0) * 256 + l.getD (4 * i + 3) 0
/-- the next word of a schedule -/
def nxt (l w : List Nat) (n : Nat) : Nat := if n < 16 then be4 l n else ad (ad (ad (w.getD (n - 16) 0) (s0 (w.getD (n - 15) 0))) (w.getD (n - 7) 0)) (s1 (w.getD (n - 2) 0))
def sch (l : List Nat) : Nat → List Nat
  | 0 => []
  | n + 1 => sch l n ++ [nxt l (sch l n) n]
theorem rotr_lt {n k : Nat} (hn : n < 4294967296) (hk : k ≤ 32) : rotr n k < 4294967296 := by
  unfold rotr
  have e : (4294967296 : Nat) = 2 ^ k * 2 ^ (32 - k) := by rw [← Nat.pow_add, show k + (32 - k) = 32 by omega]
  have h1 : n / 2 ^ k < 2 ^ (32 - k) := (Nat.div_lt_iff_lt_mul (Nat.two_pow_pos k)).2 (by rw [Nat.mul_comm]; omega)
  have h2 : n % 2 ^ k + 1 ≤ 2 ^ k := Nat.mod_lt _ (Nat.two_pow_pos k)
  have h3 : (n % 2 ^ k + 1) * 2 ^ (32 - k) ≤ 2 ^ k * 2 ^ (32 - k) := Nat.mul_le_mul_right _ h2
  rw [Nat.add_mul, Nat.one_mul] at h3
  omega
/-- turned once more -/
theorem rotr_succ {n k : Nat} (hn : n < 4294967296) (hk : k < 32) : rotr n (k + 1) = rotr n k / 2 + rotr n k % 2 * 2147483648 := by
  have e1 : 32 - k = 32 - (k + 1) + 1 := by omega
  have e2 : (2 : Nat) ^ (32 - k) = 2 ^ (32 - (k + 1)) * 2 := by rw [e1, Nat.pow_succ]
  have e3 : (2147483648 : Nat) = 2 ^ k * 2 ^ (32 - (k + 1)) := by rw [← Nat.pow_add, show k + (32 - (k + 1)) = 31 by omega]
  unfold rotr
  rw [e2, Nat.pow_succ]
  generalize hP : (2 : Nat) ^ (32 - (k + 1)) = P at *
  generalize hQ : (2 : Nat) ^ k = Q at *
  have d1 : n / (Q * 2) = n / Q / 2 := by rw [Nat.div_div_eq_div_mul]
  have d2 : n % (Q * 2) = n % Q + Q * (n / Q % 2) := Nat.mod_mul
  rw [d1, d2, e3]
  generalize n % Q = r
  generalize n / Q = q
  have h1 : (q + r * (P * 2)) / 2 = q / 2 + r * P := by rw [← Nat.mul_assoc]; omega
  have h2 : (q + r * (P * 2)) % 2 = q % 2 := by rw [← Nat.mul_assoc]; omega
  rw [h1, h2, Nat.add_mul]
  have h3 : Q * (q % 2) * P = q % 2 * (Q * P) := by rw [Nat.mul_comm Q, Nat.mul_assoc]
  omega
theorem rotr_zero (n : Nat) : rotr n 0 = n := by simp [rotr, Nat.mod_one]
theorem ad_lt (a b : Nat) : ad a b < 4294967296 := Nat.mod_lt _ (by decide)
theorem xor_w {a b : Nat} (ha : a < 4294967296) (hb : b < 4294967296) : a ^^^ b < 4294967296 := Nat.xor_lt_two_pow (n := 32) ha hb
theorem and_w {a b : Nat} (ha : a < 4294967296) : a &&& b < 4294967296 := Nat.lt_of_le_of_lt Nat.and_le_left ha
theorem s0_lt {w : Nat} (h : w < 4294967296) : s0 w < 4294967296 := xor_w (xor_w (rotr_lt h (by decide)) (rotr_lt h (by decide))) (by omega)
theorem s1_lt {w : Nat} (h : w < 4294967296) : s1 w < 4294967296 := xor_w (xor_w (rotr_lt h (by decide)) (rotr_lt h (by decide))) (by omega)
theorem b0_lt {w : Nat} (h : w < 4294967296) : b0 w < 4294967296 := xor_w (xor_w (rotr_lt h (by decide)) (rotr_lt h (by decide))) (rotr_lt h (by decide))
theorem b1_lt {w : Nat} (h : w < 4294967296) : b1 w < 4294967296 := xor_w (xor_w (rotr_lt h (by decide)) (rotr_lt h (by decide))) (rotr_lt h (by decide))
theorem chf_lt {e f g : Nat} (h : e < 4294967296) : chf e f g < 4294967296 := xor_w (and_w h) (and_w (by omega))
theorem maj_lt {a b c : Nat} (h : a < 4294967296) (hb : b < 4294967296) : maj a b c < 4294967296 := xor_w (xor_w (and_w h) (and_w h)) (and_w hb)
theorem be4_lt {l : List Nat} (h : ∀ c ∈ l, c < 256) (i : Nat) : be4 l i < 4294967296 := by
  have h1 := getD_lt h (4 * i)
  have h2 := getD_lt h (4 * i + 1)
  have h3 := getD_lt h (4 * i + 2)
  have h4 := getD_lt h (4 * i + 3)
  unfold be4; omega
theorem nxt_lt {l w : List Nat} (h : ∀ c ∈ l, c < 256) (n : Nat) : nxt l w n < 4294967296 := by
  unfold nxt
  split
  · exact be4_lt h n
  · exact ad_lt _ _
theorem sch_len (l : List Nat) (n : Nat) : (sch l n).length = n := by
  induction n with
  | zero => rfl
  | succ n ih => simp [sch, ih]
theorem sch_lt {l : List Nat} (h : ∀ c ∈ l, c < 256) (n : Nat) : ∀ c ∈ sch l n, c < 4294967296 := by
  induction n with
  | zero => intro c hc; cases hc
  | succ n ih =>
    intro c hc
    rcases List.mem_append.1 hc with hc | hc
    · exact ih c hc
    · rw [List.mem_singleton.1 hc]; exact nxt_lt h n
/-- a round -/
def rnd (k w : Nat) (v : List Nat) : List Nat :=
  let t := ad (ad (ad (ad (v.getD 7 0) (b1 (v.getD 4 0))) (chf (v.getD 4 0) (v.getD 5 0) (v.getD 6 0))) k) w
  let u := ad (b0 (v.getD 0 0)) (maj (v.getD 0 0) (v.getD 1 0) (v.getD 2 0))
  [ad t u, v.getD 0 0, v.getD 1 0, v.getD 2 0, ad (v.getD 3 0) t, v.getD 4 0, v.getD 5 0, v.getD 6 0]
/-- the rounds' constants -/
def kc : List Nat := [0x428a2f98, 0x71374491, 0xb5c0fbcf, 0xe9b5dba5, 0x3956c25b, 0x59f111f1, 0x923f82a4, 0xab1c5ed5, 0xd807aa98, 0x12835b01, 0x243185be, 0x550c7dc3, 0x72be5d74, 0x80deb1fe, 0x9bdc06a7, 0xc19bf174, 0xe49b69c1, 0xefbe4786, 0x0fc19dc6, 0x240ca1cc, 0x2de92c6f, 0x4a7484aa, 0x5cb0a9dc, 0x76f988da, 0x983e5152, 0xa831c66d, 0xb00327c8, 0xbf597fc7, 0xc6e00bf3, 0xd5a79147, 0x06ca6351, 0x14292967, 0x27b70a85, 0x2e1b2138, 0x4d2c6dfc, 0x53380d13, 0x650a7354, 0x766a0abb, 0x81c2c92e, 0x92722c85, 0xa2bfe8a1, 0xa81a664b, 0xc24b8b70, 0xc76c51a3, 0xd192e819, 0xd6990624, 0xf40e3585, 0x106aa070, 0x19a4c116, 0x1e376c08, 0x2748774c, 0x34b0bcb5, 0x391c0cb3, 0x4ed8aa4a, 0x5b9cca4f, 0x682e6ff3, 0x748f82ee, 0x78a5636f, 0x84c87814, 0x8cc70208, 0x90befffa, 0xa4506ceb, 0xbef9a3f7, 0xc67178f2]
def rds (l h : List Nat) : Nat → List Nat
  | 0 => h
  | n + 1 => rnd (kc.getD n 0) ((sch l 64).getD n 0) (rds l h n)
def blk (l h : List Nat) : List Nat := (List.range 8).map fun i => ad (h.getD i 0) ((rds l h 64).getD i 0)
def h0 : List Nat := [0x6a09e667, 0xbb67ae85, 0x3c6ef372, 0xa54ff53a, 0x510e527f, 0x9b05688c, 0x1f83d9ab, 0x5be0cd19]
/-- a number in w bytes, the highest first -/
def high (n : Nat) : Nat → List Nat
  | 0 => []
  | w + 1 => high (n / 256) w ++ [n % 256]
def zs (n : Nat) : Nat := (119 - n % 64) % 64
def pad (m : List Nat) : List Nat := m ++ [128] ++ List.replicate (zs m.length) 0 ++ high (8 * m.length) 8
def fld (m : List Nat) : Nat → List Nat
  | 0 => h0
  | n + 1 => blk ((m.drop (64 * n)).take 64) (fld m n)
def sha (m : List Nat) : List Nat := (fld (pad m) ((pad m).length / 64)).flatMap fun w => high w 4
theorem high_len (n w : Nat) : (high n w).length = w := by
  induction w generalizing n with
  | zero => rfl
  | succ w ih => simp [high, ih]
theorem high_lt (n w : Nat) : ∀ c ∈ high n w, c < 256 := by
  induction w generalizing n with
  | zero => intro c hc; cases hc
  | succ w ih =>
    intro c hc
    rcases List.mem_append.1 hc with hc | hc
    · exact ih _ c hc
    · rw [List.mem_singleton.1 hc]; exact Nat.mod_lt _ (by decide)
theorem pad_len (m : List Nat) : (pad m).length = m.length + 9 + zs m.length := by simp [pad, high_len]; omega
theorem pad_64 (m : List Nat) : (pad m).length % 64 = 0 := by rw [pad_len]; unfold zs; omega
theorem rds_len {l h : List Nat} (hh : h.length = 8) (n : Nat) : (rds l h n).length = 8 := by
  cases n with
  | zero => exact hh
  | succ n => rfl
theorem blk_len (l h : List Nat) : (blk l h).length = 8 := by simp [blk]
theorem fld_len (m : List Nat) (n : Nat) : (fld m n).length = 8 := by
  cases n with
  | zero => rfl
  | succ n => exact blk_len _ _
theorem blk_lt (l h : List Nat) : ∀ c ∈ blk l h, c < 4294967296 := by
  intro c hc
  obtain ⟨i, _, rfl⟩ := List.mem_map.1 hc
  exact ad_lt _ _
theorem h0_lt : ∀ c ∈ h0, c < 4294967296 := by decide
theorem fld_lt (m : List Nat) (n : Nat) : ∀ c ∈ fld m n, c < 4294967296 := by
  cases n with
  | zero => exact h0_lt
  | succ n => exact blk_lt _ _
end Go.Proofs.YtdbfikcpaionbaaDoor
/- The fingerprint of "abc". -/
namespace Go.Proofs.YtdbfikcpaionbaaDoor
set_option linter.unusedVariables false
theorem sch_of (l w : List Nat) (hw : w.length = 64) (h : ∀ n, n < 64 → w.getD n 0 = nxt l (w.take n) n) : sch l 64 = w := by
  have key : ∀ n, n ≤ 64 → sch l n = w.take n := by
    intro n
    induction n with
    | zero => intro _; simp [sch]
    | succ n ih =>
      intro hn
      have hlt : n < w.length := by omega
      rw [sch, ih (by omega), ← h n (by omega), List.take_succ_eq_append_getElem hlt, List.getD_eq_getElem?_getD, List.getElem?_eq_getElem hlt]
      rfl
  rw [key 64 (Nat.le_refl _), List.take_of_length_le (by omega)]
theorem rds_of (l w h : List Nat) (ss : List (List Nat)) (hw : sch l 64 = w) (h0 : ss.getD 0 [] = h) (hs : ∀ n, n < 64 → ss.getD (n + 1) [] = rnd (kc.getD n 0) (w.getD n 0) (ss.getD n [])) : ∀ n, n ≤ 64 → rds l h n = ss.getD n [] := by
  intro n
  induction n with
  | zero => intro _; exact h0.symm
  | succ n ih => intro hn; rw [rds, ih (by omega), hw, hs n (by omega)]
def abcB : List Nat := [97, 98, 99, 128, 0, 0, 0, 0, 0, 0, 0, 0, 0, 0, 0, 0, 0, 0, 0, 0, 0, 0, 0, 0, 0, 0, 0, 0, 0, 0, 0, 0, 0, 0, 0, 0, 0, 0, 0, 0, 0, 0, 0, 0, 0, 0, 0, 0, 0, 0, 0, 0, 0, 0, 0, 0, 0, 0, 0, 0, 0, 0, 0, 24]
def abcW : List Nat := [1633837952, 0, 0, 0, 0, 0, 0, 0, 0, 0, 0, 0, 0, 0, 0, 24, 1633837952, 983040, 2108187653, 1610613702, 1050508152, 25426944, 316456923, 3806512014, 3357629466, 3073800610, 3854317833, 845560923, 2636160359, 3968280267, 1881225380, 3552024379, 2482346367, 996719219, 2952069057, 4043988066, 176896406, 1924104970, 2483675966, 610538786, 2672279444, 4037431130, 1042573945, 657669027, 206005234, 2215296807, 2049510749, 106709978, 4215179723, 3430291419, 3118885940, 2845390439, 2226839261, 3256115900, 344409900, 2987358873, 4015503821, 3957764664, 2682456414, 2025622859, 2755645205, 1720397816, 4004225740, 313650667]
def abcS : List (List Nat) := [[1779033703, 3144134277, 1013904242, 2773480762, 1359893119, 2600822924, 528734635, 1541459225],
  [1567288269, 1779033703, 3144134277, 1013904242, 4197074466, 1359893119, 2600822924, 528734635],
  [1516951981, 1567288269, 1779033703, 3144134277, 2026797449, 4197074466, 1359893119, 2600822924],
  [3368241063, 1516951981, 1567288269, 1779033703, 4180228587, 2026797449, 4197074466, 1359893119],
  [3578852966, 3368241063, 1516951981, 1567288269, 618661968, 4180228587, 2026797449, 4197074466],
  [71342698, 3578852966, 3368241063, 1516951981, 1135452741, 618661968, 4180228587, 2026797449],
  [725748213, 71342698, 3578852966, 3368241063, 1900175533, 1135452741, 618661968, 4180228587],
  [3842179968, 725748213, 71342698, 3578852966, 2603066369, 1900175533, 1135452741, 618661968],
  [2241887071, 3842179968, 725748213, 71342698, 207977081, 2603066369, 1900175533, 1135452741],
  [2382687417, 2241887071, 3842179968, 725748213, 852110732, 207977081, 2603066369, 1900175533],
  [2357671019, 2382687417, 2241887071, 3842179968, 482944406, 852110732, 207977081, 2603066369],
  [1201185780, 2357671019, 2382687417, 2241887071, 1131095016, 482944406, 852110732, 207977081],
  [4146054569, 1201185780, 2357671019, 2382687417, 2171590377, 1131095016, 482944406, 852110732],
  [2274437520, 4146054569, 1201185780, 2357671019, 509051416, 2171590377, 1131095016, 482944406],
  [3643992854, 2274437520, 4146054569, 1201185780, 1952073950, 509051416, 2171590377, 1131095016],
  [3227803614, 3643992854, 2274437520, 4146054569, 194179596, 1952073950, 509051416, 2171590377],
  [2969183118, 3227803614, 3643992854, 2274437520, 123276749, 194179596, 1952073950, 509051416],
  [567974555, 2969183118, 3227803614, 3643992854, 2150900380, 123276749, 194179596, 1952073950],
  [3271285201, 567974555, 2969183118, 3227803614, 2221859924, 2150900380, 123276749, 194179596],
  [4269243327, 3271285201, 567974555, 2969183118, 3431569761, 2221859924, 2150900380, 123276749],
  [3790736435, 4269243327, 3271285201, 567974555, 2959311225, 3431569761, 2221859924, 2150900380],
  [2647034723, 3790736435, 4269243327, 3271285201, 2329577776, 2959311225, 3431569761, 2221859924],
  [3261099373, 2647034723, 3790736435, 4269243327, 3777329520, 2329577776, 2959311225, 3431569761],
  [2812502591, 3261099373, 2647034723, 3790736435, 1240797514, 3777329520, 2329577776, 2959311225],
  [3319086477, 2812502591, 3261099373, 2647034723, 2856829767, 1240797514, 3777329520, 2329577776],
  [472655928, 3319086477, 2812502591, 3261099373, 673443729, 2856829767, 1240797514, 3777329520],
  [3454534525, 472655928, 3319086477, 2812502591, 339230094, 673443729, 2856829767, 1240797514],
  [3056518332, 3454534525, 472655928, 3319086477, 3343672598, 339230094, 673443729, 2856829767],
  [2010346792, 3056518332, 3454534525, 472655928, 3992961016, 3343672598, 339230094, 673443729],
  [909411017, 2010346792, 3056518332, 3454534525, 1628611511, 3992961016, 3343672598, 339230094],
  [2684750640, 909411017, 2010346792, 3056518332, 2917635127, 1628611511, 3992961016, 3343672598],
  [3935906338, 2684750640, 909411017, 2010346792, 17410874, 2917635127, 1628611511, 3992961016],
  [1941126133, 3935906338, 2684750640, 909411017, 3126399250, 17410874, 2917635127, 1628611511],
  [2564891911, 1941126133, 3935906338, 2684750640, 2631529974, 3126399250, 17410874, 2917635127],
  [4267724277, 2564891911, 1941126133, 3935906338, 1495571923, 2631529974, 3126399250, 17410874],
  [2846323596, 4267724277, 2564891911, 1941126133, 140458035, 1495571923, 2631529974, 3126399250],
  [1705037796, 2846323596, 4267724277, 2564891911, 4105175766, 140458035, 1495571923, 2631529974],
  [1101421745, 1705037796, 2846323596, 4267724277, 124953195, 4105175766, 140458035, 1495571923],
  [887035396, 1101421745, 1705037796, 2846323596, 2768741693, 124953195, 4105175766, 140458035],
  [1841658506, 887035396, 1101421745, 1705037796, 4034403272, 2768741693, 124953195, 4105175766],
  [2045405306, 1841658506, 887035396, 1101421745, 519815328, 4034403272, 2768741693, 124953195],
  [3597076326, 2045405306, 1841658506, 887035396, 641019235, 519815328, 4034403272, 2768741693],
  [3745932591, 3597076326, 2045405306, 1841658506, 2206934801, 641019235, 519815328, 4034403272],
  [397020670, 3745932591, 3597076326, 2045405306, 3737995029, 2206934801, 641019235, 519815328],
  [2638983059, 397020670, 3745932591, 3597076326, 4255271982, 3737995029, 2206934801, 641019235],
  [643991573, 2638983059, 397020670, 3745932591, 2819559920, 4255271982, 3737995029, 2206934801],
  [1923828625, 643991573, 2638983059, 397020670, 3077922209, 2819559920, 4255271982, 3737995029],
  [2706117808, 1923828625, 643991573, 2638983059, 3581645993, 3077922209, 2819559920, 4255271982],
  [1098003085, 2706117808, 1923828625, 643991573, 4274981830, 3581645993, 3077922209, 2819559920],
  [91585771, 1098003085, 2706117808, 1923828625, 3178315832, 4274981830, 3581645993, 3077922209],
  [4045142696, 91585771, 1098003085, 2706117808, 1851537676, 3178315832, 4274981830, 3581645993],
  [2047150241, 4045142696, 91585771, 1098003085, 1391578359, 1851537676, 3178315832, 4274981830],
  [2288941602, 2047150241, 4045142696, 91585771, 1227037726, 1391578359, 1851537676, 3178315832],
  [270520975, 2288941602, 2047150241, 4045142696, 1386118400, 1227037726, 1391578359, 1851537676],
  [4117770203, 270520975, 2288941602, 2047150241, 2672265155, 1386118400, 1227037726, 1391578359],
  [1053056219, 4117770203, 270520975, 2288941602, 3842906959, 2672265155, 1386118400, 1227037726],
  [952932627, 1053056219, 4117770203, 270520975, 1422599787, 3842906959, 2672265155, 1386118400],
  [4241590395, 952932627, 1053056219, 4117770203, 2606665836, 1422599787, 3842906959, 2672265155],
  [3227702383, 4241590395, 952932627, 1053056219, 2118385806, 2606665836, 1422599787, 3842906959],
  [4290184306, 3227702383, 4241590395, 952932627, 1837350854, 2118385806, 2606665836, 1422599787],
  [3064893439, 4290184306, 3227702383, 4241590395, 2988158269, 1837350854, 2118385806, 2606665836],
  [3093179625, 3064893439, 4290184306, 3227702383, 2518632596, 2988158269, 1837350854, 2118385806],
  [80891244, 3093179625, 3064893439, 4290184306, 2492278198, 2518632596, 2988158269, 1837350854],
  [3550093669, 80891244, 3093179625, 3064893439, 4212265488, 2492278198, 2518632596, 2988158269],
  [1349398616, 3550093669, 80891244, 3093179625, 1593118500, 4212265488, 2492278198, 2518632596]]
set_option maxRecDepth 100000 in
theorem abc_pad : pad [97, 98, 99] = abcB := by decide +kernel
set_option maxRecDepth 100000 in
theorem abc_sch : sch abcB 64 = abcW := sch_of _ _ (by decide +kernel) (by decide +kernel)
set_option maxRecDepth 100000 in
theorem abc_rds : rds abcB h0 64 = abcS.getD 64 [] := rds_of _ _ _ _ abc_sch (by decide +kernel) (by decide +kernel) 64 (Nat.le_refl _)
def abcF : List Nat := [186, 120, 22, 191, 143, 1, 207, 234, 65, 65, 64, 222, 93, 174, 34, 35, 176, 3, 97, 163, 150, 23, 122, 156, 180, 16, 255, 97, 242, 0, 21, 173]
set_option maxRecDepth 100000 in
theorem sha_abc : sha [97, 98, 99] = abcF := by
  unfold sha
  rw [abc_pad, show abcB.length / 64 = 1 by decide +kernel]
  show (blk ((abcB.drop 0).take 64) h0).flatMap _ = _
  rw [show (abcB.drop 0).take 64 = abcB by decide +kernel]
  unfold blk
  rw [abc_rds]
  decide +kernel
end Go.Proofs.YtdbfikcpaionbaaDoor
/- The document's example of a code by a key. -/
namespace Go.Proofs.YtdbfikcpaionbaaDoor
set_option linter.unusedVariables false
def foxIM : List Nat := [93, 83, 79, 54, 54, 54, 54, 54, 54, 54, 54, 54, 54, 54, 54, 54, 54, 54, 54, 54, 54, 54, 54, 54, 54, 54, 54, 54, 54, 54, 54, 54, 54, 54, 54, 54, 54, 54, 54, 54, 54, 54, 54, 54, 54, 54, 54, 54, 54, 54, 54, 54, 54, 54, 54, 54, 54, 54, 54, 54, 54, 54, 54, 54, 84, 104, 101, 32, 113, 117, 105, 99, 107, 32, 98, 114, 111, 119, 110, 32, 102, 111, 120, 32, 106, 117, 109, 112, 115, 32, 111, 118, 101, 114, 32, 116, 104, 101, 32, 108, 97, 122, 121, 32, 100, 111, 103]
def foxIP : List Nat := [93, 83, 79, 54, 54, 54, 54, 54, 54, 54, 54, 54, 54, 54, 54, 54, 54, 54, 54, 54, 54, 54, 54, 54, 54, 54, 54, 54, 54, 54, 54, 54, 54, 54, 54, 54, 54, 54, 54, 54, 54, 54, 54, 54, 54, 54, 54, 54, 54, 54, 54, 54, 54, 54, 54, 54, 54, 54, 54, 54, 54, 54, 54, 54, 84, 104, 101, 32, 113, 117, 105, 99, 107, 32, 98, 114, 111, 119, 110, 32, 102, 111, 120, 32, 106, 117, 109, 112, 115, 32, 111, 118, 101, 114, 32, 116, 104, 101, 32, 108, 97, 122, 121, 32, 100, 111, 103, 128, 0, 0, 0, 0, 0, 0, 0, 0, 0, 0, 0, 0, 0, 0, 0, 0, 0, 0, 3, 88]
set_option maxRecDepth 100000 in
theorem foxI_pad : pad foxIM = foxIP := by decide +kernel
def foxIB0 : List Nat := [93, 83, 79, 54, 54, 54, 54, 54, 54, 54, 54, 54, 54, 54, 54, 54, 54, 54, 54, 54, 54, 54, 54, 54, 54, 54, 54, 54, 54, 54, 54, 54, 54, 54, 54, 54, 54, 54, 54, 54, 54, 54, 54, 54, 54, 54, 54, 54, 54, 54, 54, 54, 54, 54, 54, 54, 54, 54, 54, 54, 54, 54, 54, 54]
def foxIW0 : List Nat := [1565740854, 909522486, 909522486, 909522486, 909522486, 909522486, 909522486, 909522486, 909522486, 909522486, 909522486, 909522486, 909522486, 909522486, 909522486, 909522486, 1484848355, 828629987, 3046079234, 3776264696, 2791310139, 2408496505, 1432802191, 4279136217, 40131307, 3440696412, 2761625533, 3109296823, 2464963315, 15183730, 3262041459, 1301009130, 494097387, 911498773, 3591502981, 2081777627, 3068146072, 300753484, 4189014784, 316684472, 482755238, 1789643473, 2292660537, 4028708497, 808784977, 80985466, 663664670, 349427506, 1313325631, 3200613697, 3221973858, 3913925113, 1731109990, 3732668420, 293673707, 3227921096, 3874275074, 2802869092, 2861148269, 1991861016, 193996981, 1258338248, 2361588754, 3500943187]
def foxIS0 : List (List Nat) := [[1779033703, 3144134277, 1013904242, 2773480762, 1359893119, 2600822924, 528734635, 1541459225],
  [1499191171, 1779033703, 3144134277, 1013904242, 4128977368, 1359893119, 2600822924, 528734635],
  [4122741130, 1499191171, 1779033703, 3144134277, 2982994970, 4128977368, 1359893119, 2600822924],
  [19013689, 4122741130, 1499191171, 1779033703, 1112638183, 2982994970, 4128977368, 1359893119],
  [681573300, 19013689, 4122741130, 1499191171, 2020572021, 1112638183, 2982994970, 4128977368],
  [2122534910, 681573300, 19013689, 4122741130, 230200089, 2020572021, 1112638183, 2982994970],
  [2108449771, 2122534910, 681573300, 19013689, 1568154522, 230200089, 2020572021, 1112638183],
  [3431259727, 2108449771, 2122534910, 681573300, 3747101211, 1568154522, 230200089, 2020572021],
  [3330340368, 3431259727, 2108449771, 2122534910, 1618359630, 3747101211, 1568154522, 230200089],
  [1948866696, 3330340368, 3431259727, 2108449771, 2737399714, 1618359630, 3747101211, 1568154522],
  [1304017039, 1948866696, 3330340368, 3431259727, 2327406522, 2737399714, 1618359630, 3747101211],
  [2492994892, 1304017039, 1948866696, 3330340368, 712817723, 2327406522, 2737399714, 1618359630],
  [274046528, 2492994892, 1304017039, 1948866696, 2466637827, 712817723, 2327406522, 2737399714],
  [2561385380, 274046528, 2492994892, 1304017039, 1473149539, 2466637827, 712817723, 2327406522],
  [3374744752, 2561385380, 274046528, 2492994892, 4039501349, 1473149539, 2466637827, 712817723],
  [2816881395, 3374744752, 2561385380, 274046528, 377067107, 4039501349, 1473149539, 2466637827],
  [3387307632, 2816881395, 3374744752, 2561385380, 1776661742, 377067107, 4039501349, 1473149539],
  [3741961525, 3387307632, 2816881395, 3374744752, 2494117983, 1776661742, 377067107, 4039501349],
  [1062500600, 3741961525, 3387307632, 2816881395, 4282149560, 2494117983, 1776661742, 377067107],
  [348534449, 1062500600, 3741961525, 3387307632, 1131473108, 4282149560, 2494117983, 1776661742],
  [1113275755, 348534449, 1062500600, 3741961525, 77137756, 1131473108, 4282149560, 2494117983],
  [2831669183, 1113275755, 348534449, 1062500600, 440530801, 77137756, 1131473108, 4282149560],
  [1853634890, 2831669183, 1113275755, 348534449, 1685531925, 440530801, 77137756, 1131473108],
  [3464886256, 1853634890, 2831669183, 1113275755, 3619921196, 1685531925, 440530801, 77137756],
  [1219400371, 3464886256, 1853634890, 2831669183, 4918587, 3619921196, 1685531925, 440530801],
  [3572198043, 1219400371, 3464886256, 1853634890, 822829422, 4918587, 3619921196, 1685531925],
  [2319068762, 3572198043, 1219400371, 3464886256, 532177475, 822829422, 4918587, 3619921196],
  [3613873215, 2319068762, 3572198043, 1219400371, 2757718309, 532177475, 822829422, 4918587],
  [3415305343, 3613873215, 2319068762, 3572198043, 1952251823, 2757718309, 532177475, 822829422],
  [3237203661, 3415305343, 3613873215, 2319068762, 4127183919, 1952251823, 2757718309, 532177475],
  [3183804200, 3237203661, 3415305343, 3613873215, 3131186645, 4127183919, 1952251823, 2757718309],
  [2944741512, 3183804200, 3237203661, 3415305343, 4149355328, 3131186645, 4127183919, 1952251823],
  [3032474974, 2944741512, 3183804200, 3237203661, 388317344, 4149355328, 3131186645, 4127183919],
  [931106071, 3032474974, 2944741512, 3183804200, 3265151074, 388317344, 4149355328, 3131186645],
  [836355436, 931106071, 3032474974, 2944741512, 3700235026, 3265151074, 388317344, 4149355328],
  [3286437812, 836355436, 931106071, 3032474974, 4251331468, 3700235026, 3265151074, 388317344],
  [2884276275, 3286437812, 836355436, 931106071, 1800329315, 4251331468, 3700235026, 3265151074],
  [1745817240, 2884276275, 3286437812, 836355436, 981196932, 1800329315, 4251331468, 3700235026],
  [3501713202, 1745817240, 2884276275, 3286437812, 3282811760, 981196932, 1800329315, 4251331468],
  [1458225435, 3501713202, 1745817240, 2884276275, 3757478764, 3282811760, 981196932, 1800329315],
  [3775854037, 1458225435, 3501713202, 1745817240, 3320140963, 3757478764, 3282811760, 981196932],
  [1772160750, 3775854037, 1458225435, 3501713202, 331697645, 3320140963, 3757478764, 3282811760],
  [442554680, 1772160750, 3775854037, 1458225435, 1617773942, 331697645, 3320140963, 3757478764],
  [2818215076, 442554680, 1772160750, 3775854037, 1233679010, 1617773942, 331697645, 3320140963],
  [3152021300, 2818215076, 442554680, 1772160750, 3391447547, 1233679010, 1617773942, 331697645],
  [2480436513, 3152021300, 2818215076, 442554680, 2857886393, 3391447547, 1233679010, 1617773942],
  [33214042, 2480436513, 3152021300, 2818215076, 3157630122, 2857886393, 3391447547, 1233679010],
  [573858644, 33214042, 2480436513, 3152021300, 480171137, 3157630122, 2857886393, 3391447547],
  [1351547305, 573858644, 33214042, 2480436513, 1154826127, 480171137, 3157630122, 2857886393],
  [413896545, 1351547305, 573858644, 33214042, 154499531, 1154826127, 480171137, 3157630122],
  [3784960145, 413896545, 1351547305, 573858644, 1069951140, 154499531, 1154826127, 480171137],
  [1615578176, 3784960145, 413896545, 1351547305, 3601403014, 1069951140, 154499531, 1154826127],
  [3606522258, 1615578176, 3784960145, 413896545, 2985911339, 3601403014, 1069951140, 154499531],
  [630990308, 3606522258, 1615578176, 3784960145, 937334319, 2985911339, 3601403014, 1069951140],
  [2973192316, 630990308, 3606522258, 1615578176, 3609222719, 937334319, 2985911339, 3601403014],
  [1288336348, 2973192316, 630990308, 3606522258, 2222286535, 3609222719, 937334319, 2985911339],
  [1481182109, 1288336348, 2973192316, 630990308, 1703032732, 2222286535, 3609222719, 937334319],
  [4087285530, 1481182109, 1288336348, 2973192316, 2451104596, 1703032732, 2222286535, 3609222719],
  [2162037261, 4087285530, 1481182109, 1288336348, 3776849917, 2451104596, 1703032732, 2222286535],
  [410916820, 2162037261, 4087285530, 1481182109, 206951459, 3776849917, 2451104596, 1703032732],
  [4019699229, 410916820, 2162037261, 4087285530, 1981979706, 206951459, 3776849917, 2451104596],
  [2452492707, 4019699229, 410916820, 2162037261, 654056988, 1981979706, 206951459, 3776849917],
  [934346168, 2452492707, 4019699229, 410916820, 1283415264, 654056988, 1981979706, 206951459],
  [2360816372, 934346168, 2452492707, 4019699229, 3382913752, 1283415264, 654056988, 1981979706],
  [1684200147, 2360816372, 934346168, 2452492707, 1426189322, 3382913752, 1283415264, 654056988]]
set_option maxRecDepth 100000 in
theorem foxI_sch0 : sch foxIB0 64 = foxIW0 := sch_of _ _ (by decide +kernel) (by decide +kernel)
set_option maxRecDepth 100000 in
theorem foxI_rds0 : rds foxIB0 h0 64 = foxIS0.getD 64 [] := rds_of _ _ _ _ foxI_sch0 (by decide +kernel) (by decide +kernel) 64 (Nat.le_refl _)
set_option maxRecDepth 100000 in
theorem foxI_fld0 : fld foxIP 1 = [3463233850, 1209983353, 1948250410, 931006173, 2786082441, 1688769380, 1812149899, 2195516213] := by
  rw [show fld foxIP 1 = blk ((foxIP.drop (64 * 0)).take 64) (fld foxIP 0) from rfl, show fld foxIP 0 = h0 from rfl, show (foxIP.drop (64 * 0)).take 64 = foxIB0 by decide +kernel]
  unfold blk
  rw [foxI_rds0]
  decide +kernel
def foxIB1 : List Nat := [84, 104, 101, 32, 113, 117, 105, 99, 107, 32, 98, 114, 111, 119, 110, 32, 102, 111, 120, 32, 106, 117, 109, 112, 115, 32, 111, 118, 101, 114, 32, 116, 104, 101, 32, 108, 97, 122, 121, 32, 100, 111, 103, 128, 0, 0, 0, 0, 0, 0, 0, 0, 0, 0, 0, 0, 0, 0, 0, 0, 0, 0, 3, 88]
def foxIW1 : List Nat := [1416127776, 1903520099, 1797284466, 1870097952, 1718581280, 1786080624, 1931505526, 1701978228, 1751457900, 1635416352, 1685022592, 0, 0, 0, 0, 856, 1215789539, 3369772837, 1438141474, 147128942, 1286988929, 2236494754, 777899669, 724914221, 1652101295, 2398219790, 395259173, 396037982, 4169268895, 345964178, 2628613065, 352212796, 3932672556, 519796785, 508523907, 1183815677, 2400673158, 3074333110, 2481456119, 3422383585, 4199991306, 1280787848, 2556776200, 1348430178, 1461863882, 3731819580, 3261972228, 655793655, 1593858064, 759378383, 2909831118, 1747216474, 2074102933, 814742857, 1817559613, 3837537694, 1229741528, 3742076030, 3133341155, 2462041720, 1251173789, 3836026743, 3546991780, 3660136386]
def foxIS1 : List (List Nat) := [[3463233850, 1209983353, 1948250410, 931006173, 2786082441, 1688769380, 1812149899, 2195516213],
  [3673088360, 3463233850, 1209983353, 1948250410, 3171180282, 2786082441, 1688769380, 1812149899],
  [1003290231, 3673088360, 3463233850, 1209983353, 1594180067, 3171180282, 2786082441, 1688769380],
  [1609929502, 1003290231, 3673088360, 3463233850, 3195295240, 1594180067, 3171180282, 2786082441],
  [758628959, 1609929502, 1003290231, 3673088360, 3329469959, 3195295240, 1594180067, 3171180282],
  [690527359, 758628959, 1609929502, 1003290231, 3177432555, 3329469959, 3195295240, 1594180067],
  [87839574, 690527359, 758628959, 1609929502, 2282826863, 3177432555, 3329469959, 3195295240],
  [3849221983, 87839574, 690527359, 758628959, 762630907, 2282826863, 3177432555, 3329469959],
  [2557760402, 3849221983, 87839574, 690527359, 2785408353, 762630907, 2282826863, 3177432555],
  [3279929747, 2557760402, 3849221983, 87839574, 2070179221, 2785408353, 762630907, 2282826863],
  [1012803499, 3279929747, 2557760402, 3849221983, 2094301911, 2070179221, 2785408353, 762630907],
  [1091036304, 1012803499, 3279929747, 2557760402, 52908146, 2094301911, 2070179221, 2785408353],
  [904722263, 1091036304, 1012803499, 3279929747, 1638905143, 52908146, 2094301911, 2070179221],
  [2981667973, 904722263, 1091036304, 1012803499, 2076815392, 1638905143, 52908146, 2094301911],
  [2635729865, 2981667973, 904722263, 1091036304, 4244217021, 2076815392, 1638905143, 52908146],
  [1009984533, 2635729865, 2981667973, 904722263, 1985811594, 4244217021, 2076815392, 1638905143],
  [2545089127, 1009984533, 2635729865, 2981667973, 1831882957, 1985811594, 4244217021, 2076815392],
  [3964860944, 2545089127, 1009984533, 2635729865, 60806912, 1831882957, 1985811594, 4244217021],
  [3078029904, 3964860944, 2545089127, 1009984533, 4158813282, 60806912, 1831882957, 1985811594],
  [2028522532, 3078029904, 3964860944, 2545089127, 441957368, 4158813282, 60806912, 1831882957],
  [991985976, 2028522532, 3078029904, 3964860944, 4197927907, 441957368, 4158813282, 60806912],
  [1186343905, 991985976, 2028522532, 3078029904, 1922796571, 4197927907, 441957368, 4158813282],
  [906452220, 1186343905, 991985976, 2028522532, 2631244761, 1922796571, 4197927907, 441957368],
  [3168845451, 906452220, 1186343905, 991985976, 143648986, 2631244761, 1922796571, 4197927907],
  [467212890, 3168845451, 906452220, 1186343905, 2259908181, 143648986, 2631244761, 1922796571],
  [3124566131, 467212890, 3168845451, 906452220, 2447521097, 2259908181, 143648986, 2631244761],
  [1870975225, 3124566131, 467212890, 3168845451, 287292030, 2447521097, 2259908181, 143648986],
  [2871450183, 1870975225, 3124566131, 467212890, 1560335025, 287292030, 2447521097, 2259908181],
  [1367638638, 2871450183, 1870975225, 3124566131, 513463114, 1560335025, 287292030, 2447521097],
  [2067349391, 1367638638, 2871450183, 1870975225, 886534042, 513463114, 1560335025, 287292030],
  [2324393440, 2067349391, 1367638638, 2871450183, 3097491652, 886534042, 513463114, 1560335025],
  [942891148, 2324393440, 2067349391, 1367638638, 666893788, 3097491652, 886534042, 513463114],
  [2410793906, 942891148, 2324393440, 2067349391, 3742086972, 666893788, 3097491652, 886534042],
  [3286026984, 2410793906, 942891148, 2324393440, 2064374651, 3742086972, 666893788, 3097491652],
  [221353871, 3286026984, 2410793906, 942891148, 4151356276, 2064374651, 3742086972, 666893788],
  [1551504283, 221353871, 3286026984, 2410793906, 1267824674, 4151356276, 2064374651, 3742086972],
  [583781505, 1551504283, 221353871, 3286026984, 3246062177, 1267824674, 4151356276, 2064374651],
  [1820627807, 583781505, 1551504283, 221353871, 542893255, 3246062177, 1267824674, 4151356276],
  [3672973473, 1820627807, 583781505, 1551504283, 666691412, 542893255, 3246062177, 1267824674],
  [3624241257, 3672973473, 1820627807, 583781505, 41616217, 666691412, 542893255, 3246062177],
  [1891570248, 3624241257, 3672973473, 1820627807, 2543278346, 41616217, 666691412, 542893255],
  [3944794275, 1891570248, 3624241257, 3672973473, 215153393, 2543278346, 41616217, 666691412],
  [1265959500, 3944794275, 1891570248, 3624241257, 4047943170, 215153393, 2543278346, 41616217],
  [212547757, 1265959500, 3944794275, 1891570248, 2764412088, 4047943170, 215153393, 2543278346],
  [3838381295, 212547757, 1265959500, 3944794275, 3754358602, 2764412088, 4047943170, 215153393],
  [51635989, 3838381295, 212547757, 1265959500, 3872181227, 3754358602, 2764412088, 4047943170],
  [1578279172, 51635989, 3838381295, 212547757, 1829486925, 3872181227, 3754358602, 2764412088],
  [2268960776, 1578279172, 51635989, 3838381295, 4172472836, 1829486925, 3872181227, 3754358602],
  [2929917502, 2268960776, 1578279172, 51635989, 1953295415, 4172472836, 1829486925, 3872181227],
  [2780222498, 2929917502, 2268960776, 1578279172, 1223873289, 1953295415, 4172472836, 1829486925],
  [1630109485, 2780222498, 2929917502, 2268960776, 1146958303, 1223873289, 1953295415, 4172472836],
  [1354672188, 1630109485, 2780222498, 2929917502, 763059986, 1146958303, 1223873289, 1953295415],
  [2124957766, 1354672188, 1630109485, 2780222498, 471755680, 763059986, 1146958303, 1223873289],
  [850532594, 2124957766, 1354672188, 1630109485, 3943138879, 471755680, 763059986, 1146958303],
  [2179955083, 850532594, 2124957766, 1354672188, 3976205532, 3943138879, 471755680, 763059986],
  [454852833, 2179955083, 850532594, 2124957766, 2809057597, 3976205532, 3943138879, 471755680],
  [64388399, 454852833, 2179955083, 850532594, 989081570, 2809057597, 3976205532, 3943138879],
  [324710154, 64388399, 454852833, 2179955083, 3518304346, 989081570, 2809057597, 3976205532],
  [3755826240, 324710154, 64388399, 454852833, 3090419526, 3518304346, 989081570, 2809057597],
  [377357701, 3755826240, 324710154, 64388399, 2101042903, 3090419526, 3518304346, 989081570],
  [3605158950, 377357701, 3755826240, 324710154, 834250125, 2101042903, 3090419526, 3518304346],
  [1962128182, 3605158950, 377357701, 3755826240, 3545320188, 834250125, 2101042903, 3090419526],
  [2752293195, 1962128182, 3605158950, 377357701, 1655987682, 3545320188, 834250125, 2101042903],
  [1501564153, 2752293195, 1962128182, 3605158950, 3911201969, 1655987682, 3545320188, 834250125],
  [2892205344, 1501564153, 2752293195, 1962128182, 3710653811, 3911201969, 1655987682, 3545320188]]
set_option maxRecDepth 100000 in
theorem foxI_sch1 : sch foxIB1 64 = foxIW1 := sch_of _ _ (by decide +kernel) (by decide +kernel)
set_option maxRecDepth 100000 in
theorem foxI_rds1 : rds foxIB1 [3463233850, 1209983353, 1948250410, 931006173, 2786082441, 1688769380, 1812149899, 2195516213] 64 = foxIS1.getD 64 [] := rds_of _ _ _ _ foxI_sch1 (by decide +kernel) (by decide +kernel) 64 (Nat.le_refl _)
set_option maxRecDepth 100000 in
theorem foxI_fld1 : fld foxIP 2 = [2060471898, 2711547506, 405576309, 2893134355, 2201768956, 1305004053, 3468137581, 1445869105] := by
  rw [show fld foxIP 2 = blk ((foxIP.drop (64 * 1)).take 64) (fld foxIP 1) from rfl, show fld foxIP 1 = [3463233850, 1209983353, 1948250410, 931006173, 2786082441, 1688769380, 1812149899, 2195516213] from foxI_fld0, show (foxIP.drop (64 * 1)).take 64 = foxIB1 by decide +kernel]
  unfold blk
  rw [foxI_rds1]
  decide +kernel
set_option maxRecDepth 100000 in
theorem foxI_sha : sha foxIM = [122, 208, 78, 90, 161, 158, 238, 114, 24, 44, 154, 117, 172, 113, 186, 19, 131, 60, 83, 252, 77, 200, 200, 21, 206, 183, 148, 109, 86, 46, 54, 49] := by
  unfold sha
  rw [foxI_pad, show foxIP.length / 64 = 2 by decide +kernel, foxI_fld1]
  decide +kernel
def foxOM : List Nat := [55, 57, 37, 92, 92, 92, 92, 92, 92, 92, 92, 92, 92, 92, 92, 92, 92, 92, 92, 92, 92, 92, 92, 92, 92, 92, 92, 92, 92, 92, 92, 92, 92, 92, 92, 92, 92, 92, 92, 92, 92, 92, 92, 92, 92, 92, 92, 92, 92, 92, 92, 92, 92, 92, 92, 92, 92, 92, 92, 92, 92, 92, 92, 92, 122, 208, 78, 90, 161, 158, 238, 114, 24, 44, 154, 117, 172, 113, 186, 19, 131, 60, 83, 252, 77, 200, 200, 21, 206, 183, 148, 109, 86, 46, 54, 49]
def foxOP : List Nat := [55, 57, 37, 92, 92, 92, 92, 92, 92, 92, 92, 92, 92, 92, 92, 92, 92, 92, 92, 92, 92, 92, 92, 92, 92, 92, 92, 92, 92, 92, 92, 92, 92, 92, 92, 92, 92, 92, 92, 92, 92, 92, 92, 92, 92, 92, 92, 92, 92, 92, 92, 92, 92, 92, 92, 92, 92, 92, 92, 92, 92, 92, 92, 92, 122, 208, 78, 90, 161, 158, 238, 114, 24, 44, 154, 117, 172, 113, 186, 19, 131, 60, 83, 252, 77, 200, 200, 21, 206, 183, 148, 109, 86, 46, 54, 49, 128, 0, 0, 0, 0, 0, 0, 0, 0, 0, 0, 0, 0, 0, 0, 0, 0, 0, 0, 0, 0, 0, 0, 0, 0, 0, 0, 0, 0, 0, 3, 0]
set_option maxRecDepth 100000 in
theorem foxO_pad : pad foxOM = foxOP := by decide +kernel
def foxOB0 : List Nat := [55, 57, 37, 92, 92, 92, 92, 92, 92, 92, 92, 92, 92, 92, 92, 92, 92, 92, 92, 92, 92, 92, 92, 92, 92, 92, 92, 92, 92, 92, 92, 92, 92, 92, 92, 92, 92, 92, 92, 92, 92, 92, 92, 92, 92, 92, 92, 92, 92, 92, 92, 92, 92, 92, 92, 92, 92, 92, 92, 92, 92, 92, 92, 92]
def foxOW0 : List Nat := [926491996, 1549556828, 1549556828, 1549556828, 1549556828, 1549556828, 1549556828, 1549556828, 1549556828, 1549556828, 1549556828, 1549556828, 1549556828, 1549556828, 1549556828, 1549556828, 3714865294, 42962830, 71224041, 2467512273, 419793414, 1427315712, 3508693916, 3414310394, 2073676349, 1580214183, 1876669726, 817288029, 30058875, 2238447637, 3449114864, 1750348975, 1034487982, 1870231200, 1492350634, 2551253359, 1091581649, 2177230372, 3132317206, 1613577344, 4237171436, 3444518892, 3735190717, 1080276738, 825345298, 2577826517, 1725666600, 266232400, 3552217556, 3447915245, 1034235887, 1366263077, 762175820, 141195417, 1526492843, 3893978693, 2423250948, 2852858871, 495248698, 2978091584, 1082942764, 4181982254, 1183382068, 866141841]
def foxOS0 : List (List Nat) := [[1779033703, 3144134277, 1013904242, 2773480762, 1359893119, 2600822924, 528734635, 1541459225],
  [859942313, 1779033703, 3144134277, 1013904242, 3489728510, 1359893119, 2600822924, 528734635],
  [2930173116, 859942313, 1779033703, 3144134277, 2292503519, 3489728510, 1359893119, 2600822924],
  [2512867349, 2930173116, 859942313, 1779033703, 2437864267, 2292503519, 3489728510, 1359893119],
  [3890621218, 2512867349, 2930173116, 859942313, 2710241380, 2437864267, 2292503519, 3489728510],
  [1788725339, 3890621218, 2512867349, 2930173116, 2109134698, 2710241380, 2437864267, 2292503519],
  [1471395499, 1788725339, 3890621218, 2512867349, 792070146, 2109134698, 2710241380, 2437864267],
  [3620446779, 1471395499, 1788725339, 3890621218, 1466845884, 792070146, 2109134698, 2710241380],
  [216842086, 3620446779, 1471395499, 1788725339, 3532820161, 1466845884, 792070146, 2109134698],
  [3931826205, 216842086, 3620446779, 1471395499, 840313278, 3532820161, 1466845884, 792070146],
  [3662616849, 3931826205, 216842086, 3620446779, 291407364, 840313278, 3532820161, 1466845884],
  [1994298821, 3662616849, 3931826205, 216842086, 31599510, 291407364, 840313278, 3532820161],
  [390957674, 1994298821, 3662616849, 3931826205, 2685446749, 31599510, 291407364, 840313278],
  [2128251386, 390957674, 1994298821, 3662616849, 842754091, 2685446749, 31599510, 291407364],
  [4121282186, 2128251386, 390957674, 1994298821, 2664667232, 842754091, 2685446749, 31599510],
  [2848251767, 4121282186, 2128251386, 390957674, 2326852344, 2664667232, 842754091, 2685446749],
  [1583214966, 2848251767, 4121282186, 2128251386, 1966408842, 2326852344, 2664667232, 842754091],
  [183773739, 1583214966, 2848251767, 4121282186, 539526372, 1966408842, 2326852344, 2664667232],
  [2721818518, 183773739, 1583214966, 2848251767, 1237221801, 539526372, 1966408842, 2326852344],
  [2806857633, 2721818518, 183773739, 1583214966, 3421428018, 1237221801, 539526372, 1966408842],
  [4072402596, 2806857633, 2721818518, 183773739, 242990427, 3421428018, 1237221801, 539526372],
  [4126936688, 4072402596, 2806857633, 2721818518, 3095431995, 242990427, 3421428018, 1237221801],
  [3041143194, 4126936688, 4072402596, 2806857633, 2697016037, 3095431995, 242990427, 3421428018],
  [977921380, 3041143194, 4126936688, 4072402596, 4202179523, 2697016037, 3095431995, 242990427],
  [4105035502, 977921380, 3041143194, 4126936688, 804742179, 4202179523, 2697016037, 3095431995],
  [463889265, 4105035502, 977921380, 3041143194, 1613568748, 804742179, 4202179523, 2697016037],
  [1538552569, 463889265, 4105035502, 977921380, 291386286, 1613568748, 804742179, 4202179523],
  [406026946, 1538552569, 463889265, 4105035502, 3857500346, 291386286, 1613568748, 804742179],
  [3853625402, 406026946, 1538552569, 463889265, 548535532, 3857500346, 291386286, 1613568748],
  [1754032879, 3853625402, 406026946, 1538552569, 3966084945, 548535532, 3857500346, 291386286],
  [1394651959, 1754032879, 3853625402, 406026946, 2301614028, 3966084945, 548535532, 3857500346],
  [4039097343, 1394651959, 1754032879, 3853625402, 3616809982, 2301614028, 3966084945, 548535532],
  [3809906926, 4039097343, 1394651959, 1754032879, 2061232233, 3616809982, 2301614028, 3966084945],
  [1137814995, 3809906926, 4039097343, 1394651959, 1396071872, 2061232233, 3616809982, 2301614028],
  [4231015596, 1137814995, 3809906926, 4039097343, 1927277806, 1396071872, 2061232233, 3616809982],
  [2712121124, 4231015596, 1137814995, 3809906926, 343762139, 1927277806, 1396071872, 2061232233],
  [883406464, 2712121124, 4231015596, 1137814995, 1713120600, 343762139, 1927277806, 1396071872],
  [2941324024, 883406464, 2712121124, 4231015596, 378061272, 1713120600, 343762139, 1927277806],
  [1856481895, 2941324024, 883406464, 2712121124, 2364886504, 378061272, 1713120600, 343762139],
  [1642289869, 1856481895, 2941324024, 883406464, 3198704883, 2364886504, 378061272, 1713120600],
  [1566269703, 1642289869, 1856481895, 2941324024, 514269292, 3198704883, 2364886504, 378061272],
  [1677470693, 1566269703, 1642289869, 1856481895, 4068580519, 514269292, 3198704883, 2364886504],
  [3329824423, 1677470693, 1566269703, 1642289869, 3685340338, 4068580519, 514269292, 3198704883],
  [2826023474, 3329824423, 1677470693, 1566269703, 568393696, 3685340338, 4068580519, 514269292],
  [1724933615, 2826023474, 3329824423, 1677470693, 3832589999, 568393696, 3685340338, 4068580519],
  [557067497, 1724933615, 2826023474, 3329824423, 3882258372, 3832589999, 568393696, 3685340338],
  [2839067638, 557067497, 1724933615, 2826023474, 1334445971, 3882258372, 3832589999, 568393696],
  [2530637501, 2839067638, 557067497, 1724933615, 2265136484, 1334445971, 3882258372, 3832589999],
  [1441444868, 2530637501, 2839067638, 557067497, 2449669551, 2265136484, 1334445971, 3882258372],
  [1687650297, 1441444868, 2530637501, 2839067638, 3494437675, 2449669551, 2265136484, 1334445971],
  [276482307, 1687650297, 1441444868, 2530637501, 1774972773, 3494437675, 2449669551, 2265136484],
  [391427990, 276482307, 1687650297, 1441444868, 4061000571, 1774972773, 3494437675, 2449669551],
  [2127543588, 391427990, 276482307, 1687650297, 1420272248, 4061000571, 1774972773, 3494437675],
  [2355969235, 2127543588, 391427990, 276482307, 306280183, 1420272248, 4061000571, 1774972773],
  [2733575230, 2355969235, 2127543588, 391427990, 3819418943, 306280183, 1420272248, 4061000571],
  [1857962993, 2733575230, 2355969235, 2127543588, 1638240341, 3819418943, 306280183, 1420272248],
  [315762001, 1857962993, 2733575230, 2355969235, 629650638, 1638240341, 3819418943, 306280183],
  [2803275156, 315762001, 1857962993, 2733575230, 3923538280, 629650638, 1638240341, 3819418943],
  [2387462239, 2803275156, 315762001, 1857962993, 728760191, 3923538280, 629650638, 1638240341],
  [4078686391, 2387462239, 2803275156, 315762001, 1161105683, 728760191, 3923538280, 629650638],
  [3238967723, 4078686391, 2387462239, 2803275156, 377838374, 1161105683, 728760191, 3923538280],
  [1909965967, 3238967723, 4078686391, 2387462239, 1306753097, 377838374, 1161105683, 728760191],
  [1131932123, 1909965967, 3238967723, 4078686391, 965320497, 1306753097, 377838374, 1161105683],
  [3276016999, 1131932123, 1909965967, 3238967723, 862414799, 965320497, 1306753097, 377838374],
  [3554845911, 3276016999, 1131932123, 1909965967, 3317631551, 862414799, 965320497, 1306753097]]
set_option maxRecDepth 100000 in
theorem foxO_sch0 : sch foxOB0 64 = foxOW0 := sch_of _ _ (by decide +kernel) (by decide +kernel)
set_option maxRecDepth 100000 in
theorem foxO_rds0 : rds foxOB0 h0 64 = foxOS0.getD 64 [] := rds_of _ _ _ _ foxO_sch0 (by decide +kernel) (by decide +kernel) 64 (Nat.le_refl _)
set_option maxRecDepth 100000 in
theorem foxO_fld0 : fld foxOP 1 = [1038912318, 2125183980, 2145836365, 388479433, 382557374, 3463237723, 1494055132, 2848212322] := by
  rw [show fld foxOP 1 = blk ((foxOP.drop (64 * 0)).take 64) (fld foxOP 0) from rfl, show fld foxOP 0 = h0 from rfl, show (foxOP.drop (64 * 0)).take 64 = foxOB0 by decide +kernel]
  unfold blk
  rw [foxO_rds0]
  decide +kernel
def foxOB1 : List Nat := [122, 208, 78, 90, 161, 158, 238, 114, 24, 44, 154, 117, 172, 113, 186, 19, 131, 60, 83, 252, 77, 200, 200, 21, 206, 183, 148, 109, 86, 46, 54, 49, 128, 0, 0, 0, 0, 0, 0, 0, 0, 0, 0, 0, 0, 0, 0, 0, 0, 0, 0, 0, 0, 0, 0, 0, 0, 0, 0, 0, 0, 0, 3, 0]
def foxOW1 : List Nat := [2060471898, 2711547506, 405576309, 2893134355, 2201768956, 1305004053, 3468137581, 1445869105, 2147483648, 0, 0, 0, 0, 0, 0, 768, 3317470927, 1931967203, 1309560555, 4232161875, 2199878961, 1433815007, 96181441, 401345156, 2971748208, 3525689588, 2277224760, 3681548119, 68224421, 187918824, 3138597301, 763112752, 2900329290, 3674177272, 776586084, 4245826450, 2384189663, 3331990788, 3540178663, 3245945101, 1100636370, 1287433186, 1245692687, 906843348, 4020893555, 2410450418, 2964470209, 2794221402, 2330270090, 2633729803, 1156228097, 4175975732, 3162069086, 4157531122, 1351189059, 782109178, 3087681302, 1048681065, 2852675464, 2029214994, 3811510533, 3228741452, 4281665153, 2739037895]
def foxOS1 : List (List Nat) := [[1038912318, 2125183980, 2145836365, 388479433, 382557374, 3463237723, 1494055132, 2848212322],
  [2755115080, 1038912318, 2125183980, 2145836365, 3603603785, 382557374, 3463237723, 1494055132],
  [1750793182, 2755115080, 1038912318, 2125183980, 1978151040, 3603603785, 382557374, 3463237723],
  [879915450, 1750793182, 2755115080, 1038912318, 1469377735, 1978151040, 3603603785, 382557374],
  [3221268361, 879915450, 1750793182, 2755115080, 275669441, 1469377735, 1978151040, 3603603785],
  [3277356965, 3221268361, 879915450, 1750793182, 3094164844, 275669441, 1469377735, 1978151040],
  [1273105736, 3277356965, 3221268361, 879915450, 132513622, 3094164844, 275669441, 1469377735],
  [3169593044, 1273105736, 3277356965, 3221268361, 1032743832, 132513622, 3094164844, 275669441],
  [3780159139, 3169593044, 1273105736, 3277356965, 744710721, 1032743832, 132513622, 3094164844],
  [919786485, 3780159139, 3169593044, 1273105736, 2155446322, 744710721, 1032743832, 132513622],
  [2533766132, 919786485, 3780159139, 3169593044, 2495923095, 2155446322, 744710721, 1032743832],
  [3001117833, 2533766132, 919786485, 3780159139, 365951192, 2495923095, 2155446322, 744710721],
  [4145605027, 3001117833, 2533766132, 919786485, 2489266543, 365951192, 2495923095, 2155446322],
  [1321371771, 4145605027, 3001117833, 2533766132, 4212516188, 2489266543, 365951192, 2495923095],
  [2383441041, 1321371771, 4145605027, 3001117833, 2483715753, 4212516188, 2489266543, 365951192],
  [3442112414, 2383441041, 1321371771, 4145605027, 1799409109, 2483715753, 4212516188, 2489266543],
  [2849771554, 3442112414, 2383441041, 1321371771, 747634090, 1799409109, 2483715753, 4212516188],
  [2679334253, 2849771554, 3442112414, 2383441041, 104511751, 747634090, 1799409109, 2483715753],
  [2494559488, 2679334253, 2849771554, 3442112414, 334518693, 104511751, 747634090, 1799409109],
  [550286598, 2494559488, 2679334253, 2849771554, 490495255, 334518693, 104511751, 747634090],
  [1750157546, 550286598, 2494559488, 2679334253, 1789341793, 490495255, 334518693, 104511751],
  [1678402257, 1750157546, 550286598, 2494559488, 1250630187, 1789341793, 490495255, 334518693],
  [2276213322, 1678402257, 1750157546, 550286598, 1443944721, 1250630187, 1789341793, 490495255],
  [3224121505, 2276213322, 1678402257, 1750157546, 2050661103, 1443944721, 1250630187, 1789341793],
  [1398612815, 3224121505, 2276213322, 1678402257, 2981789487, 2050661103, 1443944721, 1250630187],
  [226601049, 1398612815, 3224121505, 2276213322, 4097767784, 2981789487, 2050661103, 1443944721],
  [1684809431, 226601049, 1398612815, 3224121505, 2751588011, 4097767784, 2981789487, 2050661103],
  [2270484787, 1684809431, 226601049, 1398612815, 2734190640, 2751588011, 4097767784, 2981789487],
  [2040852894, 2270484787, 1684809431, 226601049, 1284483491, 2734190640, 2751588011, 4097767784],
  [1158244954, 2040852894, 2270484787, 1684809431, 1808373878, 1284483491, 2734190640, 2751588011],
  [2894283590, 1158244954, 2040852894, 2270484787, 3853604154, 1808373878, 1284483491, 2734190640],
  [2355150284, 2894283590, 1158244954, 2040852894, 3927672104, 3853604154, 1808373878, 1284483491],
  [1460322398, 2355150284, 2894283590, 1158244954, 4112697447, 3927672104, 3853604154, 1808373878],
  [1802898026, 1460322398, 2355150284, 2894283590, 1749762649, 4112697447, 3927672104, 3853604154],
  [1024834677, 1802898026, 1460322398, 2355150284, 2291074790, 1749762649, 4112697447, 3927672104],
  [1566686026, 1024834677, 1802898026, 1460322398, 1888394580, 2291074790, 1749762649, 4112697447],
  [1402744843, 1566686026, 1024834677, 1802898026, 1632209237, 1888394580, 2291074790, 1749762649],
  [2709600798, 1402744843, 1566686026, 1024834677, 2338573968, 1632209237, 1888394580, 2291074790],
  [658173201, 2709600798, 1402744843, 1566686026, 2521970548, 2338573968, 1632209237, 1888394580],
  [2902196852, 658173201, 2709600798, 1402744843, 466730900, 2521970548, 2338573968, 1632209237],
  [2569377, 2902196852, 658173201, 2709600798, 3849815242, 466730900, 2521970548, 2338573968],
  [707547530, 2569377, 2902196852, 658173201, 765206374, 3849815242, 466730900, 2521970548],
  [1556340131, 707547530, 2569377, 2902196852, 2755021932, 765206374, 3849815242, 466730900],
  [4015584843, 1556340131, 707547530, 2569377, 1590757143, 2755021932, 765206374, 3849815242],
  [2008652715, 4015584843, 1556340131, 707547530, 3746009561, 1590757143, 2755021932, 765206374],
  [3549281572, 2008652715, 4015584843, 1556340131, 2533668875, 3746009561, 1590757143, 2755021932],
  [2056228592, 3549281572, 2008652715, 4015584843, 4102573310, 2533668875, 3746009561, 1590757143],
  [2376954994, 2056228592, 3549281572, 2008652715, 2992428275, 4102573310, 2533668875, 3746009561],
  [1524172382, 2376954994, 2056228592, 3549281572, 1104538456, 2992428275, 4102573310, 2533668875],
  [3956346231, 1524172382, 2376954994, 2056228592, 2759054837, 1104538456, 2992428275, 4102573310],
  [3040904274, 3956346231, 1524172382, 2376954994, 2390248530, 2759054837, 1104538456, 2992428275],
  [1786357042, 3040904274, 3956346231, 1524172382, 1853969289, 2390248530, 2759054837, 1104538456],
  [1393249314, 1786357042, 3040904274, 3956346231, 1828248038, 1853969289, 2390248530, 2759054837],
  [2915460656, 1393249314, 1786357042, 3040904274, 1299000663, 1828248038, 1853969289, 2390248530],
  [4094329420, 2915460656, 1393249314, 1786357042, 982740324, 1299000663, 1828248038, 1853969289],
  [3613623517, 4094329420, 2915460656, 1393249314, 1197912280, 982740324, 1299000663, 1828248038],
  [2844086050, 3613623517, 4094329420, 2915460656, 707323762, 1197912280, 982740324, 1299000663],
  [2057640659, 2844086050, 3613623517, 4094329420, 1830774131, 707323762, 1197912280, 982740324],
  [2693641806, 2057640659, 2844086050, 3613623517, 4237904721, 1830774131, 707323762, 1197912280],
  [451821215, 2693641806, 2057640659, 2844086050, 490557886, 4237904721, 1830774131, 707323762],
  [3263470939, 451821215, 2693641806, 2057640659, 2795735265, 490557886, 4237904721, 1830774131],
  [2470967162, 3263470939, 451821215, 2693641806, 2203449206, 2795735265, 490557886, 4237904721],
  [827046809, 2470967162, 3263470939, 451821215, 1043997920, 2203449206, 2795735265, 490557886],
  [2980563000, 827046809, 2470967162, 3263470939, 2061059838, 1043997920, 2203449206, 2795735265],
  [3117414582, 2980563000, 827046809, 2470967162, 3632266467, 2061059838, 1043997920, 2203449206]]
set_option maxRecDepth 100000 in
theorem foxO_sch1 : sch foxOB1 64 = foxOW1 := sch_of _ _ (by decide +kernel) (by decide +kernel)
set_option maxRecDepth 100000 in
theorem foxO_rds1 : rds foxOB1 [1038912318, 2125183980, 2145836365, 388479433, 382557374, 3463237723, 1494055132, 2848212322] 64 = foxOS1.getD 64 [] := rds_of _ _ _ _ foxO_sch1 (by decide +kernel) (by decide +kernel) 64 (Nat.le_refl _)
set_option maxRecDepth 100000 in
theorem foxO_fld1 : fld foxOP 2 = [4156326900, 810779684, 2972883174, 2859446595, 4014823841, 1229330265, 2538053052, 756694232] := by
  rw [show fld foxOP 2 = blk ((foxOP.drop (64 * 1)).take 64) (fld foxOP 1) from rfl, show fld foxOP 1 = [1038912318, 2125183980, 2145836365, 388479433, 382557374, 3463237723, 1494055132, 2848212322] from foxO_fld0, show (foxOP.drop (64 * 1)).take 64 = foxOB1 by decide +kernel]
  unfold blk
  rw [foxO_rds1]
  decide +kernel
set_option maxRecDepth 100000 in
theorem foxO_sha : sha foxOM = [247, 188, 131, 244, 48, 83, 132, 36, 177, 50, 152, 230, 170, 111, 177, 67, 239, 77, 89, 161, 73, 70, 23, 89, 151, 71, 157, 188, 45, 26, 60, 216] := by
  unfold sha
  rw [foxO_pad, show foxOP.length / 64 = 2 by decide +kernel, foxO_fld1]
  decide +kernel
end Go.Proofs.YtdbfikcpaionbaaDoor
/- Codes and keys: what they are, in plain words. -/
namespace Go.Proofs.YtdbfikcpaionbaaDoor
set_option linter.unusedVariables false
def keyB (k : List Nat) : List Nat := if 64 < k.length then sha k else k
def fill64 (k : List Nat) : List Nat := k ++ List.replicate (64 - k.length) 0
def xr (b : Nat) (l : List Nat) : List Nat := l.map fun c => c ^^^ b
/-- a message's code by a key -/
def mac (k m : List Nat) : List Nat := sha (xr 92 (fill64 (keyB k)) ++ sha (xr 54 (fill64 (keyB k)) ++ m))
def exT (k info : List Nat) : Nat → List Nat
  | 0 => []
  | i + 1 => mac k (exT k info i ++ info ++ [(i + 1) % 256])
def exN (k info : List Nat) : Nat → List Nat
  | 0 => []
  | i + 1 => exN k info i ++ exT k info (i + 1)
theorem sha_len (m : List Nat) : (sha m).length = 32 := by
  unfold sha
  have h := fld_len (pad m) ((pad m).length / 64)
  generalize fld (pad m) ((pad m).length / 64) = l at *
  match l, h with
  | [a, b, c, d, e, f, g, i], _ => simp [high_len]
theorem sha_lt (m : List Nat) : ∀ c ∈ sha m, c < 256 := by
  intro c hc
  obtain ⟨w, _, h⟩ := List.mem_flatMap.1 hc
  exact high_lt _ _ c h
theorem keyB_len (k : List Nat) : (keyB k).length ≤ 64 := by
  unfold keyB
  split
  · rw [sha_len]; decide
  · omega
theorem fill64_len (k : List Nat) (h : k.length ≤ 64) : (fill64 k).length = 64 := by simp [fill64]; omega
theorem mac_len (k m : List Nat) : (mac k m).length = 32 := sha_len _
theorem mac_lt (k m : List Nat) : ∀ c ∈ mac k m, c < 256 := sha_lt _
theorem exT_len (k info : List Nat) (i : Nat) : (exT k info (i + 1)).length = 32 := mac_len _ _
theorem exN_len (k info : List Nat) (i : Nat) : (exN k info i).length = 32 * i := by
  induction i with
  | zero => rfl
  | succ i ih => rw [exN, List.length_append, ih, exT_len]; omega
/-- the document's example -/
theorem mac_fox : mac [107, 101, 121] [84, 104, 101, 32, 113, 117, 105, 99, 107, 32, 98, 114, 111, 119, 110, 32, 102, 111, 120, 32, 106, 117, 109, 112, 115, 32, 111, 118, 101, 114, 32, 116, 104, 101, 32, 108, 97, 122, 121, 32, 100, 111, 103] = [247, 188, 131, 244, 48, 83, 132, 36, 177, 50, 152, 230, 170, 111, 177, 67, 239, 77, 89, 161, 73, 70, 23, 89, 151, 71, 157, 188, 45, 26, 60, 216] := by
  unfold mac
  rw [show xr 54 (fill64 (keyB [107, 101, 121])) ++ [84, 104, 101, 32, 113, 117, 105, 99, 107, 32, 98, 114, 111, 119, 110, 32, 102, 111, 120, 32, 106, 117, 109, 112, 115, 32, 111, 118, 101, 114, 32, 116, 104, 101, 32, 108, 97, 122, 121, 32, 100, 111, 103] = foxIM by decide +kernel, foxI_sha]
  rw [show xr 92 (fill64 (keyB [107, 101, 121])) ++ [122, 208, 78, 90, 161, 158, 238, 114, 24, 44, 154, 117, 172, 113, 186, 19, 131, 60, 83, 252, 77, 200, 200, 21, 206, 183, 148, 109, 86, 46, 54, 49] = foxOM by decide +kernel, foxO_sha]
end Go.Proofs.YtdbfikcpaionbaaDoor
/- From a law's walk to the law's row, where the row lists the rounds' table. -/
namespace Go.Proofs.YtdbfikcpaionbaaDoor
open Go.ChangeShapes Go.WideShapes Go.ChangeAt Go.RowKit
def laidR : List (String × DataW Unit) := [("quaestor/sha.rounds", Rows.laid_quaestor_sha_rounds)]
theorem laidR_tab : laidR = [("quaestor/sha.rounds", Lib.tabData .u32 (kc.map fun (n : Nat) => (n : Int)))] := rfl
theorem gRounds : Tryd.prog.globalNamed "quaestor/sha.rounds" = some 0 := by kernel_rfl
theorem gRoundsT : (Tryd.prog.globals[0]?).map (·.type) = some 95 := by kernel_rfl
theorem cellsW : Tryd.prog.cellsOf 78 = 1 := by kernel_rfl
theorem cellsR : Tryd.prog.cellsOf 95 = 64 := by kernel_rfl
theorem door_met (os : Os) (args : Array Value) : laidMetH Tryd.prog laidR ((World.doorLaid Tryd.prog 400 os).forCall (fun _ _ => 0) ⟨#[], args, []⟩).memory :=
  laidMetH_of_parts3 (fuel := 8) (laidMet_of_run' 8 (by kernel_rfl) (by kernel_rfl)) (by kernel_rfl) (by kernel_rfl)
theorem of_laid {W : World} (h : laidMetH Tryd.prog laidR W) : (∀ i, i < 64 → W.cell? ⟨0, i, none⟩ = some (.int .u32 (kc.getD i 0 : Nat))) ∧ 0 < W.heap.size := by
  rw [MakeChecks.laidMetH_plain _ _ _ (by kernel_rfl), laidR_tab] at h
  have hT := Lib.tabIs_of_head gRounds gRoundsT Tryd.underlying95 Tryd.underlying78 cellsW cellsR h
  have hc : ∀ i, i < 64 → W.cell? ⟨0, i, none⟩ = some (.int .u32 (kc.getD i 0 : Nat)) := fun i hi => by
    have h1 := hT.cell gRounds i (by rw [List.length_map]; exact hi)
    rw [h1, List.getD_eq_getElem?_getD, List.getElem?_map, List.getD_eq_getElem?_getD, List.getElem?_eq_getElem (show i < kc.length from hi)]
    rfl
  exact ⟨hc, block_lt (hc 0 (by decide))⟩
theorem liftL {os : Os} (started : os.Started) {H : Type} {enc : TypeId × Value → H} (f : FuncId) {fn : Func} {s : ChangeSpec} {conds : List PathCond} (hconds : conds = [])
    (noInit : Tryd.checked.prog.inits.idxOf? f = none) (hfn : Tryd.checked.prog.funcs[f]? = some fn) (hs : LawSpec s fn.params.toList.length) (hres : fn.resultTypes = #[4])
    (hts : ∀ t ∈ fn.params.toList, Tryd.prog.readableRec t = true ∧ t < Tryd.prog.types.size)
    (witness : ∃ (w : World) (tape : Tape) (i : Input), w.os = os ∧ (w.forCall tape i).Shaped Tryd.checked.prog ∧ i.vars = [] ∧ Input.okWide Tryd.checked.prog (w.forCall tape i) .any w.heap.size f i ∧
      ((s.pre enc Tryd.checked.prog fn conds false (w.forCall tape i).memory i.args ∧ laidMetH Tryd.prog laidR (w.forCall tape i).memory) ∧ sizedMet enc Tryd.checked.prog fn (OpenSpec.ofChange s) false (w.forCall tape i).memory i.args) ∧ Assume.holds {} Tryd.checked.prog (lone (Frame.enter Tryd.checked.prog f i.args .normal) [] (w.forCall tape i)))
    (walk : ∀ (W : World) (base : Nat) (args : Array Value) (ds : List (DataW H)) (ps : List MemPlace), (∀ i, i < 64 → W.cell? ⟨0, i, none⟩ = some (.int .u32 (kc.getD i 0 : Nat))) → 0 < W.heap.size →
      (∀ (j : Nat) t v, fn.params[j]? = some t → args[j]? = some v → Value.okWide Tryd.prog W .any base t v) →
      DataW.TrodAll enc Tryd.prog W 0 (fun _ => true) true fn.params.toList args.toList ds ps → (∀ x ∈ ps, x.block < W.heap.size) → Calls Tryd.prog f args W (Yes W)) :
    ReturnsInHanded {} Tryd.checked os f .any (fun w args => (s.pre enc Tryd.prog fn conds false w args ∧ laidMetH Tryd.prog laidR w) ∧ sizedMet enc Tryd.prog fn (OpenSpec.ofChange s) false w args) (s.post enc Tryd.prog fn false true false false) := by
  subst hconds
  refine returnsInHanded_of_change_and (C := Tryd.checked) (X := fun w _ => laidMetH Tryd.prog laidR w) (fun _ _ _ hh h => h.of_heap hh) own started noInit hfn witness ?_
  intro W base args ds gs before hval hW _ _ hL _
  have hW' := hW
  have hlt : ∀ p ∈ before, p.block < W.heap.size := fun p hp => hW.lt p hp
  obtain ⟨p, q, hA, hV, hbef, hfz, hnd⟩ := hW
  rw [hs.1] at hV
  obtain ⟨rfl, rfl⟩ := trodVars_none hV
  rw [List.append_nil] at hbef
  subst hbef
  refine (walk W base args ds _ (of_laid hL).1 (of_laid hL).2 hval hA hlt).mono fun e W' ⟨he, bel⟩ => ?_
  subst he
  have hlen := trodAll_length _ _ _ _ hA
  have hfn' := hs.2 H ds hlen
  refine ⟨_, rfl, ?_⟩
  refine ⟨ds, [], before, [], before, [], hW', ?_, ?_, ?_, bel.frame _, fun h => by cases h⟩
  · rw [List.append_nil, hfn', hres]
    exact trodAll_mk1 (shut_bool Tryd.underlying4 _)
  · rw [List.append_nil, hfn']
    exact trodAll_below laidOut bel _ _ _ _ hts hA hlt
  · rw [List.append_nil, hfn', hs.1]; rfl
end Go.Proofs.YtdbfikcpaionbaaDoor
/- Arguments that are arrays of bytes, opened. -/
namespace Go.Proofs.YtdbfikcpaionbaaDoor
open Go.ChangeShapes Go.WideShapes Go.ChangeAt Go.RowKit
theorem byt_of : ∀ cs : List Value, (∀ i, i < cs.length → ∃ n : Nat, n < 256 ∧ (cs.drop i).take 1 = [.int .u8 (n : Int)]) → ∃ l : List Nat, cs = byt l ∧ ∀ c ∈ l, c < 256
  | [], _ => ⟨[], rfl, by simp⟩
  | u :: cs, h => by
    obtain ⟨n, hn, hu⟩ := h 0 (by simp)
    obtain ⟨l, hl, hs⟩ := byt_of cs (fun i hi => by simpa using h (i + 1) (by simp; omega))
    refine ⟨n :: l, ?_, ?_⟩
    · simp at hu; rw [hu, hl]; rfl
    · intro c hc
      rcases List.mem_cons.1 hc with rfl | hc
      · exact hn
      · exact hs c hc
/-- an array of bytes reads as a list of bytes -/
theorem barr_of {H : Type} {enc : TypeId × Value → H} {W : World} {b fuel T n : Nat} {sp : Nat → Bool} {hd : Bool} {cs : List Value} {x : DataW H × List MemPlace}
    (ht : Tryd.prog.underlying T = some (.array n 5)) (hc : Tryd.prog.cellsOf T = n) (h : DataW.trod enc Tryd.prog W b sp hd fuel T cs = some x) : ∃ l : List Nat, cs = byt l ∧ l.length = n ∧ ∀ c ∈ l, c < 256 := by
  obtain ⟨xs, m, _, _, hlen, hx, hg⟩ := DataW.trod_array ht h
  have h1 : Tryd.prog.cellsOf 5 = 1 := by kernel_rfl
  rw [hc] at hlen
  obtain ⟨l, hl, hs⟩ := byt_of cs (fun i hi => by
    have hgi := hg i (by omega)
    rw [h1, Nat.mul_one] at hgi
    have hxi : xs[i]? = some (xs[i]'(by omega)) := List.getElem?_eq_getElem (by omega)
    rw [hxi] at hgi
    obtain ⟨z, hz, _, wz⟩ := DataW.trod_int Tryd.underlying5 hgi
    have hb := bounds_u8 wz
    exact ⟨z.toNat, by omega, by rw [hz, Int.toNat_of_nonneg hb.1]⟩)
  exact ⟨l, hl, by rw [← byt_len, ← hl]; exact hlen, hs⟩
end Go.Proofs.YtdbfikcpaionbaaDoor
/- '==' and '!=' on arrays of bytes. -/
namespace Go.Proofs.YtdbfikcpaionbaaDoor
set_option maxRecDepth 100000
open Go.RowKit
/-- bytes as an array's cells -/
def vb (l : List Nat) : Array Value := (byt l).toArray
theorem vb_size (l : List Nat) : (vb l).size = l.length := by simp [vb, byt_len]
section
variable {P : Program}
theorem keyLits_bytes {T e : TypeId} {n D : Nat} (ht : P.underlying T = some (.array n e)) (he : P.underlying e = some (.int .u8)) (hc : P.cellsOf T = n) (h1 : P.cellsOf e = 1) (l : List Nat) (hl : l.length = n) (hs : ∀ c ∈ l, c < 256) :
    P.keyLits (D + 2) T (byt l) = some (l.map fun (c : Nat) => Lit.int .u8 (c : Int)) := by
  have hm : ∀ (is : List Nat), (∀ i ∈ is, i < l.length) → (is.mapM fun i => P.keyLits (D + 1) e (((byt l).drop (i * 1)).take 1)) = some (is.map fun i => [Lit.int .u8 (l.getD i 0 : Nat)]) := by
    intro is
    induction is with
    | nil => intro _; rfl
    | cons i is ih =>
      intro h
      have hi := h i (by simp)
      have hk : P.keyLits (D + 1) e (((byt l).drop (i * 1)).take 1) = some [Lit.int .u8 (l.getD i 0 : Nat)] := by
        rw [Nat.mul_one, List.drop_eq_getElem_cons (by rw [byt_len]; exact hi)]
        have hg : (byt l)[i]'(by rw [byt_len]; exact hi) = .int .u8 (l.getD i 0 : Nat) := by
          have := byt_at hi
          rw [List.getElem?_eq_getElem (by rw [byt_len]; exact hi)] at this
          exact Option.some.inj this
        rw [hg]
        have hb := getD_lt hs i
        have hw : (Lit.int .u8 ((l.getD i 0 : Nat) : Int)).wf = true := WalkArith.wf_u8 ⟨by omega, by omega⟩
        simp only [List.take_succ_cons, List.take_zero, Program.keyLits, he]
        rw [if_pos (by first | exact hw | exact ⟨trivial, hw⟩)]
      rw [List.mapM_cons, hk, ih (fun j hj => h j (by simp [hj]))]
      rfl
  have hflat : ((List.range l.length).map fun i => [Lit.int .u8 ((l.getD i 0 : Nat) : Int)]).flatten = l.map fun (c : Nat) => Lit.int .u8 (c : Int) := by
    have : ∀ is : List Nat, (is.map fun i => [Lit.int .u8 ((l.getD i 0 : Nat) : Int)]).flatten = is.map fun i => Lit.int .u8 ((l.getD i 0 : Nat) : Int) := by
      intro is; induction is with
      | nil => rfl
      | cons i is ih => simp only [List.map_cons, List.flatten_cons, List.singleton_append, ih]
    rw [this]
    apply List.ext_getElem
    · simp
    · intro i h1 h2
      simp at h1
      simp [List.getD_eq_getElem?_getD, h1]
  have hstep : P.keyLits (D + 2) T (byt l) = if (byt l).length = P.cellsOf T then ((List.range n).mapM fun i => P.keyLits (D + 1) e (((byt l).drop (i * P.cellsOf e)).take (P.cellsOf e))).map List.flatten else none := by
    conv => lhs; unfold Program.keyLits
    rw [ht]
  rw [hstep, hc, h1, if_pos (by rw [byt_len]; exact hl), ← hl, hm _ (fun i hi => List.mem_range.1 hi), Option.map_some, hflat]
theorem lits_inj {l m : List Nat} (h : (l.map fun (c : Nat) => Lit.int .u8 (c : Int)) = m.map fun (c : Nat) => Lit.int .u8 (c : Int)) : l = m := by
  have hinj : ∀ a b : Nat, Lit.int .u8 (a : Int) = Lit.int .u8 (b : Int) → a = b := fun a b h => by injection h with _ h; omega
  induction l generalizing m with
  | nil => cases m with
    | nil => rfl
    | cons => simp at h
  | cons a l ih => cases m with
    | nil => simp at h
    | cons b m =>
      simp only [List.map_cons, List.cons.injEq] at h
      rw [hinj _ _ h.1, ih h.2]
/-- '==' on arrays of bytes -/
theorem run_equalIn_barr {T e : TypeId} {n : Nat} (ht : P.underlying T = some (.array n e)) (he : P.underlying e = some (.int .u8)) (hc : P.cellsOf T = n) (h1 : P.cellsOf e = 1)
    (l m : List Nat) (hl : l.length = n) (hm : m.length = n) (hs : ∀ c ∈ l, c < 256) (hs2 : ∀ c ∈ m, c < 256) (w : World) :
    (Op.equalIn 10000 T (.agg (vb l)) (.agg (vb m))).run P w = .ok (l == m) w := by
  have hk : P.keyTypeAt 2 T = true := by simp [Program.keyTypeAt, ht, he]
  have hf : ∀ k : List Nat, k.length = n → (Value.agg (vb k)).formed P T = true := fun k h => by simp [Value.formed, ht, hc, vb_size, h]
  obtain ⟨r, hr, hiff⟩ := run_equalIn_deep (P := P) 9998 2 T hk w 2 2 (.agg (vb l)) (.agg (vb m)) _ _ (hf l hl) (hf m hm)
    (by simpa [Value.cells, vb] using keyLits_bytes (D := 0) ht he hc h1 l hl hs) (by simpa [Value.cells, vb] using keyLits_bytes (D := 0) ht he hc h1 m hm hs2)
  rw [show 9998 + 2 = 10000 from rfl] at hr
  rw [hr]
  congr 1
  by_cases h : l = m
  · subst h; rw [hiff.2 rfl]; simp
  · have : r = false := by
      cases r with
      | true => exact absurd (lits_inj (hiff.1 rfl)) h
      | false => rfl
    rw [this]; simp [h]
end
end Go.Proofs.YtdbfikcpaionbaaDoor
/- A key that came in by value, opened. -/
namespace Go.Proofs.YtdbfikcpaionbaaDoor
open Go.ChangeShapes Go.WideShapes Go.ChangeAt Go.RowKit
theorem okWide_array {P : Program} {w : World} {r : Reach} {base n : Nat} {t e : TypeId} {v : Value} (ht : P.underlying t = some (.array n e)) (h : Value.okWide P w r base t v) : ∃ cs, v = .agg cs ∧ cs.size = P.cellsOf t := by
  simp only [Value.okWide, ht] at h
  obtain ⟨cs, h1, h2, _⟩ := h
  exact ⟨cs, h1, h2⟩
theorem open_key {H : Type} {enc : TypeId × Value → H} {W : World} {base : Nat} {v : Value} {d : DataW H} {p : List MemPlace} (hv : Value.okWide Tryd.prog W .any base 23 v)
    (h : DataW.Trod enc Tryd.prog W 0 (fun _ => true) true 23 v d p) : ∃ l : List Nat, v = .agg (vb l) ∧ l.length = 32 ∧ ∀ c ∈ l, c < 256 := by
  obtain ⟨cs, rfl, hsz⟩ := okWide_array Tryd.underlying23 hv
  have hC : Tryd.prog.cellsOf 23 = 32 := by kernel_rfl
  obtain ⟨fuel, hf⟩ := h
  simp only [Value.cells] at hf
  obtain ⟨l, e, hl, hs⟩ := barr_of Tryd.underlying23 hC hf
  exact ⟨l, by congr 1; apply Array.toList_inj.1; rw [e]; simp [vb], hl, hs⟩
end Go.Proofs.YtdbfikcpaionbaaDoor
/- Laws for append onto a row of the call's own, whatever the source; and what is left of other rows. -/
namespace Go.Proofs.YtdbfikcpaionbaaDoor
set_option maxRecDepth 100000
open Go.RowKit
/-- behind an append: the new row; nothing but the old row, and what is new, has turned -/
structure Apped (w : World) (base : Nat) (e : TypeId) (size : Nat) (v : Value) (w' : World) (v' : Value) (n : Nat) (xs : List Value) : Prop where
  own : w'.ownsRow base e size v' n xs
  grown : w.grownBy w' v.ownBlock
  lies : v'.ownBlock = v.ownBlock ∨ v'.ownBlock = some w.heap.size
theorem own_base {w : World} {base : Nat} {e : TypeId} {size n : Nat} {v : Value} {xs : List Value} (h : w.ownsRow base e size v n xs) : ∀ g, v.ownBlock = some g → base ≤ g := by
  intro g hg
  rcases h.2 with ⟨rfl, _⟩ | ⟨g', cap, cur, rfl, hb, _⟩
  · simp [Value.ownBlock] at hg
  · simp [Value.ownBlock] at hg; omega
theorem own_lt {w : World} {base : Nat} {e : TypeId} {size n : Nat} {v : Value} {xs : List Value} (h : w.ownsRow base e size v n xs) : ∀ g, v.ownBlock = some g → g < w.heap.size := by
  intro g hg
  rcases h.2 with ⟨rfl, _⟩ | ⟨g', cap, cur, rfl, _, hh, _⟩
  · simp [Value.ownBlock] at hg
  · simp [Value.ownBlock] at hg
    subst hg
    rcases Nat.lt_or_ge g' w.heap.size with h1 | h1
    · exact h1
    · rw [Array.getElem?_eq_none h1] at hh; cases hh
theorem Apped.below {w w' : World} {base : Nat} {e : TypeId} {size n n0 : Nat} {v v' : Value} {xs xs0 : List Value} (h : Apped w base e size v w' v' n xs) (h0 : w.ownsRow base e size v n0 xs0) (hb : base ≤ w.heap.size) : Below base w w' :=
  (Below.refl _ _).grown h.grown hb (fun k hk => own_base h0 k hk)
/-- a row of the call's own, of some length, has its form; its cells read -/
theorem own_rd {w : World} {base : Nat} {e : TypeId} {size n : Nat} {v : Value} {xs : List Value} (h : w.ownsRow base e size v n xs) : ∃ A cap, v = .slice A n cap ∧ n ≤ cap ∧ cap ≤ maxLen ∧ Rd w w.heap.size A xs := by
  rcases h.2 with ⟨rfl, rfl⟩ | ⟨g, cap, cur, rfl, hb, hh, hn, hm, hc, ht⟩
  · exact ⟨none, 0, rfl, Nat.le_refl _, by simp [maxLen], fun hne => absurd (List.eq_nil_of_length_eq_zero (by simpa using h.1)) hne⟩
  · have hg : g < w.heap.size := by
      rcases Nat.lt_or_ge g w.heap.size with h1 | h1
      · exact h1
      · rw [Array.getElem?_eq_none h1] at hh; cases hh
    refine ⟨_, cap, rfl, hn, hm, fun _ => ⟨_, rfl, hg, fun j u hu => ?_⟩⟩
    have hj : j < n * size := by
      rcases Nat.lt_or_ge j (n * size) with h1 | h1
      · exact h1
      · rw [List.getElem?_eq_none (by rw [h.1]; exact h1)] at hu; cases hu
    have e1 : (Addr.add ⟨g, 0, none⟩ j) = ⟨g, j, none⟩ := by
      unfold Addr.add; split
      · subst_vars; rfl
      · simp
    rw [e1]
    refine cellOf hh ?_
    rw [← ht, List.getElem?_take_of_lt hj] at hu
    simpa using hu
section
variable {P : Program} (w : World)
theorem run_app_nil (base : Nat) (t ty e : TypeId) (i : TypeInfo) (size : Nat) (ht : P.underlying t = some (.slice e)) (hi : P.info? e = some i)
    (v : Value) (n : Nat) (xs : List Value) (hown : w.ownsRow base e size v n xs) (A : Option Addr) (c : Nat) (hA : A = none) : (Builtin.append_ #[t, t] ty #[v, .slice A 0 c]).run P w = .ok v w := by
  subst hA
  rcases hown.2 with ⟨rfl, rfl⟩ | ⟨g, cap, cur, rfl, _, _, hnc, _⟩
  · simp [Builtin.append_, run_underlying ht, sizeOf, typeInfo, hi, Builtin.lenOf, Builtin.firstCells]
  · simp [Builtin.append_, run_underlying ht, sizeOf, typeInfo, hi, Builtin.lenOf, Builtin.firstCells, hnc, storeCells]
theorem run_app (base : Nat) (t ty e : TypeId) (i : TypeInfo) (z : Value) (size bytes : Nat) (ht : P.underlying t = some (.slice e)) (hi : P.info? e = some i) (hz : i.zero = some z)
    (hsize : i.size = size) (hby : i.bytes = bytes) (hzs : z.cells.size = size) (hsz : 0 < size)
    (v : Value) (n : Nat) (xs : List Value) (hown : w.ownsRow base e size v n xs)
    (Bs : Nat) (A : Option Addr) (m c : Nat) (news : List Value) (hl : news.length = m * size) (hr : Rd w Bs A news) (h1 : ∀ u ∈ news, u.oneCell' = true)
    (hn : n + m ≤ 1000000000) (hbytes : (n + m) * bytes ≤ 140737488355328) (hbase : base ≤ w.heap.size) :
    ∃ v' w', (Builtin.append_ #[t, t] ty #[v, .slice A m c]).run P w = .ok v' w' ∧ Apped w base e size v w' v' (n + m) (xs ++ news) := by
  have h63 : n + m ≤ maxLen := by simp only [maxLen]; omega
  rcases Nat.eq_zero_or_pos m with h0 | h0
  · subst h0
    have hnil : news = [] := List.eq_nil_of_length_eq_zero (by simpa using hl)
    subst hnil
    rcases A with _ | ad
    · exact ⟨v, w, run_app_nil w base t ty e i size ht hi v n xs hown none c rfl, ⟨by simpa using hown, World.grownBy.refl w _, .inl rfl⟩⟩
    · obtain ⟨v', w', hrun, h2, h3, _, h5⟩ := run_append_own_at (P := P) w base t ty e i z size bytes ht hi hz hsize hby hzs hsz v n xs hown ad 0 c [] hl (fun j u hu => by simp at hu) h1 h63 hbytes hbase
      exact ⟨v', w', hrun, h2, h3, h5⟩
  · have hne : news ≠ [] := fun hnil => by
      rw [hnil] at hl
      have : 0 < m * size := Nat.mul_pos h0 hsz
      simp at hl; omega
    obtain ⟨ad, rfl, _, hc⟩ := hr hne
    obtain ⟨v', w', hrun, h2, h3, _, h5⟩ := run_append_own_at (P := P) w base t ty e i z size bytes ht hi hz hsize hby hzs hsz v n xs hown ad m c news hl hc h1 h63 hbytes hbase
    exact ⟨v', w', hrun, h2, h3, h5⟩
theorem wp_app {o : Oper} {a : Act} {K : Act → World → Prop} {Q : Exit → Act → World → Prop} (s x : Operand) (t : TypeId)
    (ho : o.op = .call { callee := .builtin .append, args := #[s, x], argTypes := #[t, t] })
    (base : Nat) (e : TypeId) (i : TypeInfo) (z : Value) (size bytes : Nat) (ht : P.underlying t = some (.slice e)) (hi : P.info? e = some i) (hz : i.zero = some z)
    (hsize : i.size = size) (hby : i.bytes = bytes) (hzs : z.cells.size = size) (hsz : 0 < size)
    (v : Value) (n : Nat) (xs : List Value) (hs : a.eval s = v) (hown : w.ownsRow base e size v n xs)
    (Bs : Nat) (A : Option Addr) (m c : Nat) (news : List Value) (hx : a.eval x = .slice A m c) (hl : news.length = m * size) (hr : Rd w Bs A news) (h1 : ∀ u ∈ news, u.oneCell' = true)
    (hn : n + m ≤ 1000000000) (hbytes : (n + m) * bytes ≤ 140737488355328) (hbase : base ≤ w.heap.size)
    (h : ∀ v' w', Apped w base e size v w' v' (n + m) (xs ++ news) → K (a.put o.dst v') w') : o.wp P a w K Q := by
  obtain ⟨v', w', hrun, h2⟩ := run_app (P := P) w base t o.type e i z size bytes ht hi hz hsize hby hzs hsz v n xs hown Bs A m c news hl hr h1 hn hbytes hbase
  unfold Oper.wp execOp
  simp only [ho, resolve, invoke, builtin, Sem.run_bind, Sem.run_pure, Result.andThen_ok, List.map_toArray, List.map_cons, List.map_nil, hs, hx, hrun]
  exact h v' w' h2
theorem wpList_app {ops : Array Oper} {rest : List Oper} {o : Oper} {a : Act} {Q : Exit → Act → World → Prop} (hw : Region.wanted o (yielded ops a.tmps) = true) (s x : Operand) (t : TypeId)
    (ho : o.op = .call { callee := .builtin .append, args := #[s, x], argTypes := #[t, t] })
    (base : Nat) (e : TypeId) (i : TypeInfo) (z : Value) (size bytes : Nat) (ht : P.underlying t = some (.slice e)) (hi : P.info? e = some i) (hz : i.zero = some z)
    (hsize : i.size = size) (hby : i.bytes = bytes) (hzs : z.cells.size = size) (hsz : 0 < size)
    (v : Value) (n : Nat) (xs : List Value) (hs : a.eval s = v) (hown : w.ownsRow base e size v n xs)
    (Bs : Nat) (A : Option Addr) (m c : Nat) (news : List Value) (hx : a.eval x = .slice A m c) (hl : news.length = m * size) (hr : Rd w Bs A news) (h1 : ∀ u ∈ news, u.oneCell' = true)
    (hn : n + m ≤ 1000000000) (hbytes : (n + m) * bytes ≤ 140737488355328) (hbase : base ≤ w.heap.size)
    (h : ∀ v' w', Apped w base e size v w' v' (n + m) (xs ++ news) → wpList P ops Q rest (a.put o.dst v') w') : wpList P ops Q (o :: rest) a w :=
  wpList_step fun K hK => by
    rw [if_pos hw]
    exact wp_app w s x t ho base e i z size bytes ht hi hz hsize hby hzs hsz v n xs hs hown Bs A m c news hx hl hr h1 hn hbytes hbase fun v' w' h2 => hK _ _ (h v' w' h2)
end
theorem byt_one (l : List Nat) : ∀ u ∈ byt l, u.oneCell' = true := by
  intro u hu
  obtain ⟨n, _, rfl⟩ := List.mem_map.1 hu
  rfl
theorem byt_app (l m : List Nat) : byt l ++ byt m = byt (l ++ m) := by simp [byt]
/-- bytes of the call's own -/
def OwnB (w : World) (base : Nat) (v : Value) (l : List Nat) : Prop := w.ownsRow base 5 1 v l.length (byt l)
theorem OwnB.nil_ (w : World) (base : Nat) : OwnB w base (.slice none 0 0) [] := ⟨rfl, .inl ⟨rfl, rfl⟩⟩
theorem OwnB.rd {w : World} {base : Nat} {v : Value} {l : List Nat} (h : OwnB w base v l) : ∃ A cap, v = .slice A l.length cap ∧ l.length ≤ cap ∧ cap ≤ maxLen ∧ Rd w w.heap.size A (byt l) := own_rd h
theorem OwnB.alloc {w : World} {base : Nat} {v : Value} {l : List Nat} (h : OwnB w base v l) (o : Obj) : OwnB (w.alloc o) base v l := World.ownsRow.alloc h o
theorem OwnB.drewN {w : World} {base : Nat} {v : Value} {l : List Nat} (h : OwnB w base v l) (n : Nat) : OwnB (w.drewN n) base v l := h
theorem OwnB.drew {w : World} {base : Nat} {v : Value} {l : List Nat} (h : OwnB w base v l) : OwnB w.drew base v l := h
theorem rd_new (w : World) (cs : List Value) (T : TypeId) (fz : Nat × Nat) : Rd (w.alloc (.cells cs.toArray T fz)) (w.heap.size + 1) (some ⟨w.heap.size, 0, none⟩) cs := fun _ =>
  ⟨_, rfl, Nat.lt_succ_self _, fun j u hu => by
    have e1 : (Addr.add ⟨w.heap.size, 0, none⟩ j) = ⟨w.heap.size, j, none⟩ := by
      unfold Addr.add; split
      · subst_vars; rfl
      · simp
    rw [e1]
    exact cellOf (heapNew w _) (by simpa using hu)⟩
theorem OwnB.snoc {w w' : World} {base : Nat} {v v' : Value} {l : List Nat} {c : Nat} (h : Apped w base 5 1 v w' v' (l.length + 1) (byt l ++ [.int .u8 (c : Int)])) : OwnB w' base v' (l ++ [c]) := by
  have := h.own
  unfold OwnB
  rw [List.length_append, ← byt_app]
  exact this
theorem OwnB.new (w : World) (base : Nat) (l : List Nat) (hb : base ≤ w.heap.size) (hm : l.length ≤ maxLen) : OwnB (w.alloc (.cells (byt l).toArray 5)) base (.slice (some ⟨w.heap.size, 0, none⟩) l.length l.length) l :=
  ⟨by simp [byt_len], .inr ⟨w.heap.size, l.length, _, rfl, hb, heapNew _ _, Nat.le_refl _, hm, by simp [byt_len], List.take_of_length_le (by simp [byt_len])⟩⟩
theorem OwnB.app {w w' : World} {base : Nat} {v v' : Value} {l m : List Nat} (h : Apped w base 5 1 v w' v' (l.length + m.length) (byt l ++ byt m)) : OwnB w' base v' (l ++ m) := by
  have := h.own
  unfold OwnB
  rw [List.length_append, ← byt_app]
  exact this
end Go.Proofs.YtdbfikcpaionbaaDoor
/- Rows of keys, of shares, that came in, opened. -/
namespace Go.Proofs.YtdbfikcpaionbaaDoor
open Go.ChangeShapes Go.WideShapes Go.ChangeAt Go.RowKit
set_option linter.unusedVariables false
theorem open_rows {H : Type} {enc : TypeId × Value → H} {W : World} {base s : Nat} {t e : TypeId} {v : Value} {d : DataW H} {p : List MemPlace} (ht : Tryd.prog.underlying t = some (.slice e)) (hs : Tryd.prog.cellsOf e = s)
    (hel : ∀ (fuel : Nat) (cs : List Value) (y : DataW H × List MemPlace), DataW.trod enc Tryd.prog W 0 (fun _ => true) true fuel e cs = some y → ∃ l : List Nat, cs = byt l ∧ l.length = s ∧ ∀ c ∈ l, c < 256)
    (hpos : 0 < s) (hv : Value.okWide Tryd.prog W .any base t v) (h : DataW.Trod enc Tryd.prog W 0 (fun _ => true) true t v d p) :
    ∃ (A : Option Addr) (L : List Nat) (n cap : Nat), v = .slice A n cap ∧ n ≤ cap ∧ cap ≤ maxLen ∧ L.length = n * s ∧ (∀ c ∈ L, c < 256) ∧ Rd W W.heap.size A (byt L) := by
  obtain ⟨A, len, cap, rfl⟩ := okWide_slice ht hv
  obtain ⟨fuel, hf⟩ := h
  rcases DataW.trod_slice ht hf with ⟨hcs, _⟩ | ⟨a, len', cap', elems, rest, n, _, hcs, _, hb, hl, hm, hlen, helem, _, _⟩
  · simp [Value.cells] at hcs
    obtain ⟨rfl, rfl, rfl⟩ := hcs
    exact ⟨none, [], 0, 0, rfl, Nat.le_refl _, by simp, by simp, by simp, Rd.nil_ _ _ _⟩
  · simp [Value.cells] at hcs
    obtain ⟨rfl, rfl, rfl⟩ := hcs
    have key : ∀ m, m ≤ len → ∃ L : List Nat, L.length = m * s ∧ (∀ c ∈ L, c < 256) ∧ ∀ j u, (byt L)[j]? = some u → W.cell? (a.add j) = some u := by
      intro m
      induction m with
      | zero => intro _; exact ⟨[], by simp, by simp, by intro j u hu; simp [byt] at hu⟩
      | succ m ih =>
        intro hm1
        obtain ⟨L, hL, hLs, hLc⟩ := ih (by omega)
        have he := helem m (by omega)
        have hem : elems[m]? = some (elems[m]'(by omega)) := List.getElem?_eq_getElem (by omega)
        rw [hem, hs, Option.bind_eq_some_iff] at he
        obtain ⟨cs', hcs', hy⟩ := he
        obtain ⟨l, rfl, hll, hls⟩ := hel n cs' _ hy
        obtain ⟨_, _, hcell⟩ := World.cells?_some hcs'
        refine ⟨L ++ l, by rw [List.length_append, hL, hll, Nat.add_mul, Nat.one_mul], fun c hc => (List.mem_append.1 hc).elim (hLs c) (hls c), fun j u hu => ?_⟩
        rw [← byt_app] at hu
        rcases Nat.lt_or_ge j (m * s) with hj | hj
        · rw [List.getElem?_append_left (by rw [byt_len, hL]; exact hj)] at hu
          exact hLc j u hu
        · rw [List.getElem?_append_right (by rw [byt_len, hL]; exact hj), byt_len, hL] at hu
          have hj2 : j - m * s < s := by
            rcases Nat.lt_or_ge (j - m * s) s with h1 | h1
            · exact h1
            · rw [List.getElem?_eq_none (by rw [byt_len, hll]; exact h1)] at hu; cases hu
          have h2 := hcell (j - m * s) hj2
          rw [Addr.add_add, show m * s + (j - m * s) = j by omega] at h2
          rw [h2, hu]
    obtain ⟨L, hL, hLs, hLc⟩ := key len (Nat.le_refl _)
    refine ⟨some a, L, len, cap, rfl, hl, hm, hL, hLs, fun hne => ?_⟩
    have h0 : 0 < L.length := by
      rcases Nat.eq_zero_or_pos L.length with h0 | h0
      · have : L = [] := List.eq_nil_of_length_eq_zero h0
        subst this; simp [byt] at hne
      · exact h0
    have hc0 := hLc 0 _ (byt_at h0)
    refine ⟨a, rfl, by have := block_lt hc0; rwa [add_block] at this, hLc⟩
theorem open_shares {H : Type} {enc : TypeId × Value → H} {W : World} {base : Nat} {v : Value} {d : DataW H} {p : List MemPlace} (hv : Value.okWide Tryd.prog W .any base 38 v)
    (h : DataW.Trod enc Tryd.prog W 0 (fun _ => true) true 38 v d p) :
    ∃ (A : Option Addr) (L : List Nat) (n cap : Nat), v = .slice A n cap ∧ n ≤ cap ∧ cap ≤ maxLen ∧ L.length = n * 33 ∧ (∀ c ∈ L, c < 256) ∧ Rd W W.heap.size A (byt L) := by
  have hC : Tryd.prog.cellsOf 31 = 33 := by kernel_rfl
  have hK : Tryd.prog.cellsOf 23 = 32 := by kernel_rfl
  have hU : Tryd.prog.cellsOf 5 = 1 := by kernel_rfl
  refine open_rows Tryd.underlying38 hC (fun fuel cs y hy => ?_) (by decide) hv h
  have hf : ∃ f0 f1 : Field, Tryd.prog.underlying 31 = some (.struct #[f0, f1]) ∧ f0.offset = 0 ∧ f1.offset = 1 ∧ f0.type = 5 ∧ f1.type = 23 := ⟨_, _, Tryd.underlying31, rfl, rfl, rfl, rfl⟩
  obtain ⟨f0, f1, hu, o0, o1, k0, k1⟩ := hf
  obtain ⟨xs, n, _, hx, hlc, hlen, hg⟩ := DataW.trod_struct hu hy
  have hlen' : xs.length = 2 := hlen
  have g0 := hg 0 f0 rfl
  have g1 := hg 1 f1 rfl
  rw [k0, o0, hU, List.getElem?_eq_getElem (by omega)] at g0
  rw [k1, o1, hK, List.getElem?_eq_getElem (by omega)] at g1
  obtain ⟨z0, hz0, _, w0⟩ := DataW.trod_int Tryd.underlying5 g0
  have hb0 := bounds_u8 w0
  obtain ⟨l, e, hl, hs⟩ := barr_of Tryd.underlying23 hK g1
  obtain ⟨x, rfl⟩ := Int.eq_ofNat_of_zero_le hb0.1
  refine ⟨x :: l, ?_, by rw [List.length_cons, hl], fun c hc => ?_⟩
  · rw [hC] at hlc
    cases cs with
    | nil => simp at hlc
    | cons u cs =>
      simp only [List.drop_zero, List.take_succ_cons, List.take_zero, List.cons.injEq, and_true] at hz0
      rw [hz0]
      have h2 : cs.take 32 = byt l := by simpa using e
      rw [List.take_of_length_le (by simp at hlc; omega)] at h2
      rw [h2]; rfl
  · rcases List.mem_cons.1 hc with rfl | hc
    · omega
    · exact hs c hc
end Go.Proofs.YtdbfikcpaionbaaDoor
/- A fingerprint, a share that came in by value, opened. -/
namespace Go.Proofs.YtdbfikcpaionbaaDoor
open Go.ChangeShapes Go.WideShapes Go.ChangeAt Go.RowKit
theorem open_sum {H : Type} {enc : TypeId × Value → H} {W : World} {base : Nat} {v : Value} {d : DataW H} {p : List MemPlace} (hv : Value.okWide Tryd.prog W .any base 28 v)
    (h : DataW.Trod enc Tryd.prog W 0 (fun _ => true) true 28 v d p) : ∃ l : List Nat, v = .agg (vb l) ∧ l.length = 32 ∧ ∀ c ∈ l, c < 256 := by
  obtain ⟨cs, rfl, hsz⟩ := okWide_array Tryd.underlying28 hv
  have hC : Tryd.prog.cellsOf 28 = 32 := by kernel_rfl
  obtain ⟨fuel, hf⟩ := h
  simp only [Value.cells] at hf
  obtain ⟨l, e, hl, hs⟩ := barr_of Tryd.underlying28 hC hf
  exact ⟨l, by congr 1; apply Array.toList_inj.1; rw [e]; simp [vb], hl, hs⟩
theorem open_share {H : Type} {enc : TypeId × Value → H} {W : World} {base : Nat} {v : Value} {d : DataW H} {p : List MemPlace} (hv : Value.okWide Tryd.prog W .any base 31 v)
    (h : DataW.Trod enc Tryd.prog W 0 (fun _ => true) true 31 v d p) : ∃ l : List Nat, v = .agg (vb l) ∧ l.length = 33 ∧ ∀ c ∈ l, c < 256 := by
  have hs : ∃ f0 f1 : Field, Tryd.prog.underlying 31 = some (.struct #[f0, f1]) ∧ f0.offset = 0 ∧ f1.offset = 1 ∧ f0.type = 5 ∧ f1.type = 23 := ⟨_, _, Tryd.underlying31, rfl, rfl, rfl, rfl⟩
  obtain ⟨f0, f1, hs, o0, o1, k0, k1⟩ := hs
  obtain ⟨cs, rfl, hsz⟩ := okWide_struct hs hv
  have hC : Tryd.prog.cellsOf 31 = 33 := by kernel_rfl
  have hc0 : Tryd.prog.cellsOf 5 = 1 := by kernel_rfl
  have hc1 : Tryd.prog.cellsOf 23 = 32 := by kernel_rfl
  obtain ⟨fuel, hf⟩ := h
  obtain ⟨xs, n, _, hx, hlc, hlen, hg⟩ := DataW.trod_struct hs hf
  simp only [Value.cells] at hf hlc hg
  have hlen' : xs.length = 2 := hlen
  have g0 := hg 0 f0 rfl
  have g1 := hg 1 f1 rfl
  rw [k0, o0, hc0, List.getElem?_eq_getElem (by omega)] at g0
  rw [k1, o1, hc1, List.getElem?_eq_getElem (by omega)] at g1
  obtain ⟨z0, e0, _, w0⟩ := DataW.trod_int Tryd.underlying5 g0
  have b0 := bounds_u8 w0
  obtain ⟨n0, rfl⟩ := Int.eq_ofNat_of_zero_le b0.1
  obtain ⟨l, e1, hl, hls⟩ := barr_of Tryd.underlying23 hc1 g1
  have hll : cs.toList.length = 33 := by rw [hlc, hC]
  refine ⟨n0 :: l, ?_, by rw [List.length_cons, hl], fun c hc => ?_⟩
  · congr 1
    apply Array.toList_inj.1
    have e2 : cs.toList.drop 1 = byt l := by rw [← e1, List.take_of_length_le (by rw [List.length_drop]; omega)]
    rw [List.drop_zero] at e0
    rw [← List.take_append_drop 1 cs.toList, e0, e2]
    rfl
  · rcases List.mem_cons.1 hc with rfl | hc
    · omega
    · exact hls c hc
end Go.Proofs.YtdbfikcpaionbaaDoor
/- Plain facts on the field of 256 elements: no program in sight. -/
namespace Go.Proofs.YtdbfikcpaionbaaDoor
open Go.RowKit
/-- one step of the product's first loop -/
def m1 (a b : Nat) : Nat → Nat
  | 0 => 0
  | k + 1 => if b / 2 ^ k % 2 = 1 then m1 a b k ^^^ (a * 2 ^ k) else m1 a b k
/-- the reduction's loop -/
def m2 (p : Nat) : Nat → Nat
  | 0 => p
  | j + 1 => if m2 p j / 2 ^ (14 - j) % 2 = 1 then m2 p j ^^^ (283 * 2 ^ (6 - j)) else m2 p j
/-- the reference's product -/
def gm (a b : Nat) : Nat := m2 (m1 a b 8) 7 % 256
theorem m1_lt (a b k : Nat) (h : a < 256) (hk : k ≤ 8) : m1 a b k < 2 ^ 16 := by
  induction k with
  | zero => simp [m1]
  | succ k ih =>
    have := ih (by omega)
    simp only [m1]
    split
    · refine Nat.xor_lt_two_pow this ?_
      have : 2 ^ k ≤ 2 ^ 8 := Nat.pow_le_pow_right (by omega) (by omega)
      calc a * 2 ^ k ≤ 255 * 2 ^ 8 := Nat.mul_le_mul (by omega) this
        _ < 2 ^ 16 := by decide
    · exact this
theorem m2_lt (p j : Nat) (h : p < 2 ^ 16) (hj : j ≤ 7) : m2 p j < 2 ^ 16 := by
  induction j with
  | zero => simpa [m2] using h
  | succ j ih =>
    have := ih (by omega)
    simp only [m2]
    split
    · refine Nat.xor_lt_two_pow this ?_
      have : 2 ^ (6 - j) ≤ 2 ^ 6 := Nat.pow_le_pow_right (by omega) (by omega)
      calc 283 * 2 ^ (6 - j) ≤ 283 * 2 ^ 6 := Nat.mul_le_mul (by omega) this
        _ < 2 ^ 16 := by decide
    · exact this
theorem gm_lt (a b : Nat) : gm a b < 256 := Nat.mod_lt _ (by decide)
def gpow (a : Nat) : Nat → Nat
  | 0 => 1
  | k + 1 => gm (gpow a k) a
theorem gpow_lt (a k : Nat) : gpow a k < 256 := by
  cases k with
  | zero => simp [gpow]
  | succ k => exact gm_lt _ _
theorem i64_xor_nat (a b : Nat) (ha : a < 65536) (hb : b < 65536) : bits .xor .i64 (a : Int) (b : Int) = ((a ^^^ b : Nat) : Int) := by
  have hx : a ^^^ b < 2 ^ 16 := Nat.xor_lt_two_pow (by omega) (by omega)
  show IntKind.i64.wrap ((BitVec.ofInt 64 (a : Int) ^^^ BitVec.ofInt 64 (b : Int)).toNat : Int) = _
  rw [BitVec.toNat_xor, BitVec.ofInt_natCast, BitVec.ofInt_natCast, BitVec.toNat_ofNat, BitVec.toNat_ofNat, Nat.mod_eq_of_lt (by omega), Nat.mod_eq_of_lt (by omega)]
  exact IntWalk.i64_in _ ⟨by omega, by omega⟩
theorem m1y {a b P k : Nat} {c n : Int} (h : a < 256) (H : P = m1 a b k) (hP : P < 65536) (hk : k < 8) (hn : n = ((k + 1 : Nat) : Int)) (hc : c = ((a * 2 ^ k : Nat) : Int)) (t : b / 2 ^ k % 2 = 1) :
    ∃ k' P' : Nat, k' ≤ 8 ∧ P' < 65536 ∧ Value.int .i64 n = .int .i64 k' ∧ Value.int .i64 (bits .xor .i64 P c) = .int .i64 P' ∧ P' = m1 a b k' := by
  have h2 : m1 a b (k + 1) = P ^^^ (a * 2 ^ k) := by simp only [m1]; rw [if_pos t, H]
  have h3 := m1_lt a b (k + 1) h (by omega)
  have h4 : 2 ^ k ≤ 2 ^ 7 := Nat.pow_le_pow_right (by omega) (by omega)
  have h5 : a * 2 ^ k ≤ 255 * 2 ^ 7 := Nat.mul_le_mul (by omega) h4
  exact ⟨k + 1, P ^^^ (a * 2 ^ k), by omega, by rw [← h2]; exact h3, by rw [hn], by rw [hc, i64_xor_nat _ _ hP (by omega)], h2.symm⟩
theorem m1n {a b P k : Nat} {n : Int} (H : P = m1 a b k) (hP : P < 65536) (hk : k < 8) (hn : n = ((k + 1 : Nat) : Int)) (t : ¬ b / 2 ^ k % 2 = 1) :
    ∃ k' P' : Nat, k' ≤ 8 ∧ P' < 65536 ∧ Value.int .i64 n = .int .i64 k' ∧ Value.int .i64 (P : Int) = .int .i64 P' ∧ P' = m1 a b k' :=
  ⟨k + 1, P, by omega, hP, by rw [hn], rfl, by simp only [m1]; rw [if_neg t, H]⟩
theorem m2y {P Q k : Nat} {c n : Int} (h : P < 2 ^ 16) (H : Q = m2 P k) (hQ : Q < 65536) (hk : k < 7) (hn : n = 14 - ((k + 1 : Nat) : Int)) (hc : c = ((283 * 2 ^ (6 - k) : Nat) : Int)) (t : Q / 2 ^ (14 - k) % 2 = 1) :
    ∃ k' Q' : Nat, k' ≤ 7 ∧ Q' < 65536 ∧ Value.int .i64 n = .int .i64 (14 - k') ∧ Value.int .i64 (bits .xor .i64 Q c) = .int .i64 Q' ∧ Q' = m2 P k' := by
  have h2 : m2 P (k + 1) = Q ^^^ (283 * 2 ^ (6 - k)) := by simp only [m2]; rw [← H, if_pos t]
  have h3 := m2_lt P (k + 1) h (by omega)
  have h4 : 2 ^ (6 - k) ≤ 2 ^ 6 := Nat.pow_le_pow_right (by omega) (by omega)
  exact ⟨k + 1, Q ^^^ (283 * 2 ^ (6 - k)), by omega, by rw [← h2]; exact h3, by rw [hn], by rw [hc, i64_xor_nat _ _ hQ (by omega)], h2.symm⟩
theorem m2n {P Q k : Nat} {n : Int} (H : Q = m2 P k) (hQ : Q < 65536) (hk : k < 7) (hn : n = 14 - ((k + 1 : Nat) : Int)) (t : ¬ Q / 2 ^ (14 - k) % 2 = 1) :
    ∃ k' Q' : Nat, k' ≤ 7 ∧ Q' < 65536 ∧ Value.int .i64 n = .int .i64 (14 - k') ∧ Value.int .i64 (Q : Int) = .int .i64 Q' ∧ Q' = m2 P k' :=
  ⟨k + 1, Q, by omega, hQ, by rw [hn], rfl, by simp only [m2]; rw [← H, if_neg t]⟩
theorem ret_u8 {a b : Int} (h : a = b) : Ending.returned (.int .u8 a) = .returned (.int .u8 b) := by rw [h]
theorem gm_of {P Q a b : Nat} (H : P = m1 a b 8) (H2 : Q = m2 P 7) : ((Q : Int) % 256) = (gm a b : Nat) := by subst H; subst H2; unfold gm; omega
/-- an element times x -/
def tw (a : Nat) : Nat := (a * 2 % 256) ^^^ (27 &&& ((256 - a / 128) % 256))
theorem tw_lt (a : Nat) : tw a < 256 := by
  unfold tw
  have : 27 &&& ((256 - a / 128) % 256) < 2 ^ 8 := Nat.and_lt_two_pow _ (by omega)
  exact Nat.xor_lt_two_pow (n := 8) (by omega) this
theorem tw_is : ∀ a : Nat, a < 256 → bits .xor .u8 ((a : Int) * 2 % 256) (bits .and .u8 27 (-((a : Int) / 128) % 256)) = ((tw a : Nat) : Int) := by
  intro a h
  have e1 : ((a : Int) * 2 % 256) = ((a * 2 % 256 : Nat) : Int) := by omega
  have e2 : (-((a : Int) / 128) % 256) = (((256 - a / 128) % 256 : Nat) : Int) := by omega
  have h2 : 27 &&& ((256 - a / 128) % 256) < 2 ^ 8 := Nat.and_lt_two_pow _ (by omega)
  rw [e1, e2, show (27 : Int) = ((27 : Nat) : Int) from rfl, u8_and_nat _ _ (by omega) (by omega), u8_xor_nat _ _ (by omega) (by omega)]
  rfl
def gexp : Nat → Nat
  | 0 => 1
  | k + 1 => gexp k ^^^ tw (gexp k)
theorem gexp_lt (k : Nat) : gexp k < 256 := by
  induction k with
  | zero => simp [gexp]
  | succ k ih => exact Nat.xor_lt_two_pow (n := 8) ih (tw_lt _)
def tbN : Nat → Array Nat
  | 0 => Array.replicate 512 0
  | k + 1 => ((tbN k).setIfInBounds k (gexp k)).setIfInBounds (256 + gexp k) k
theorem tbN_size (k : Nat) : (tbN k).size = 512 := by
  induction k with
  | zero => simp [tbN]
  | succ k ih => simp [tbN, ih]
def vtab (l : Array Nat) : Array Value := l.map fun (n : Nat) => Value.int .u8 (n : Int)
theorem vtab_size (l : Array Nat) : (vtab l).size = l.size := by simp [vtab]
theorem vtab_set (l : Array Nat) (i n : Nat) : (vtab l).setIfInBounds i (.int .u8 (n : Int)) = vtab (l.setIfInBounds i n) := by
  unfold vtab; rw [Array.map_setIfInBounds]
theorem ztab_is : vtab (tbN 0) = Array.replicate 512 (.int .u8 0) := by simp [vtab, tbN]
/-- the tables -/
def ftab : Array Nat := ((tbN 255).setIfInBounds 255 (gexp 255)).setIfInBounds 256 0
theorem ftab_size : ftab.size = 512 := by simp [ftab, tbN_size]
theorem vtab_two (t : Array Nat) (i g j k : Nat) : ((vtab t).setIfInBounds i (.int .u8 (g : Int))).setIfInBounds j (.int .u8 (k : Int)) = vtab ((t.setIfInBounds i g).setIfInBounds j k) := by
  rw [vtab_set, vtab_set]
theorem tw_next {g k : Nat} (h : g = gexp k) : bits .xor .u8 (g : Int) (tw g : Nat) = (gexp (k + 1) : Nat) := by
  subst h
  rw [u8_xor_nat _ _ (gexp_lt _) (tw_lt _)]; rfl
def tg (t : Array Nat) (i : Nat) : Nat := t.getD i 0
def Small (t : Array Nat) : Prop := t.size = 512 ∧ ∀ i, tg t i < 256
/-- products, inverses by tables -/
def tmul (t : Array Nat) (a b : Nat) : Nat := if a = 0 ∨ b = 0 then 0 else tg t ((tg t (256 + a) + tg t (256 + b)) % 255)
def tinv (t : Array Nat) (a : Nat) : Nat := if a = 0 then 0 else tg t (255 - tg t (256 + a))
theorem tmul_lt {t : Array Nat} (h : Small t) (a b : Nat) : tmul t a b < 256 := by
  unfold tmul; split
  · omega
  · exact h.2 _
theorem tinv_lt {t : Array Nat} (h : Small t) (a : Nat) : tinv t a < 256 := by
  unfold tinv; split
  · omega
  · exact h.2 _
/-- a polynomial's value by tables -/
def teval (t : Array Nat) (x : Nat) : List Nat → Nat
  | [] => 0
  | c :: l => tmul t (teval t x l) x ^^^ c
theorem teval_lt {t : Array Nat} (h : Small t) (x : Nat) : ∀ l : List Nat, (∀ c ∈ l, c < 256) → teval t x l < 256
  | [], _ => by simp [teval]
  | c :: l, hl => Nat.xor_lt_two_pow (n := 8) (tmul_lt h _ _) (hl c (by simp))
theorem teval_step {t : Array Nat} {x j : Nat} {l : List Nat} (hj : j < l.length) : teval t x (l.drop j) = tmul t (teval t x (l.drop (j + 1))) x ^^^ l.getD j 0 := by
  rw [List.drop_eq_getElem_cons hj, List.getD_eq_getElem?_getD, List.getElem?_eq_getElem hj]; rfl
/-- the reference's value of a polynomial, of the first k coefficients -/
def reval (x : Nat) (l : List Nat) : Nat → Nat
  | 0 => 0
  | k + 1 => reval x l k ^^^ gm (l.getD k 0) (gpow x k)
theorem reval_lt (x : Nat) (l : List Nat) (k : Nat) : reval x l k < 256 := by
  induction k with
  | zero => simp [reval]
  | succ k ih => exact Nat.xor_lt_two_pow (n := 8) ih (gm_lt _ _)
/-- the reference's inverse: the least from k on -/
def rinvFrom (a : Nat) : Nat → Nat → Nat
  | 0, _ => 0
  | f + 1, i => if gm a i = 1 then i else rinvFrom a f (i + 1)
def rinv (a : Nat) : Nat := rinvFrom a 255 1
end Go.Proofs.YtdbfikcpaionbaaDoor
/- The field of 256 elements, plainly: products are linear on both sides, commute, associate; the tables are logarithms. -/
namespace Go.Proofs.YtdbfikcpaionbaaDoor
theorem testBit_eq (b k : Nat) : (b / 2 ^ k % 2 = 1) ↔ b.testBit k = true := by
  rw [Nat.testBit_eq_decide_div_mod_eq]; simp
theorem m1_bit (a b k : Nat) : m1 a b (k + 1) = if b.testBit k then m1 a b k ^^^ (a * 2 ^ k) else m1 a b k := by
  simp only [m1]
  by_cases h : b / 2 ^ k % 2 = 1
  · rw [if_pos h, if_pos ((testBit_eq b k).1 h)]
  · rw [if_neg h, if_neg (fun h' => h ((testBit_eq b k).2 h'))]
theorem m2_bit (p k : Nat) : m2 p (k + 1) = if (m2 p k).testBit (14 - k) then m2 p k ^^^ (283 * 2 ^ (6 - k)) else m2 p k := by
  simp only [m2]
  by_cases h : m2 p k / 2 ^ (14 - k) % 2 = 1
  · rw [if_pos h, if_pos ((testBit_eq _ _).1 h)]
  · rw [if_neg h, if_neg (fun h' => h ((testBit_eq _ _).2 h'))]
theorem xor_swap4 (a b c d : Nat) : (a ^^^ b) ^^^ (c ^^^ d) = (a ^^^ c) ^^^ (b ^^^ d) := by
  rw [Nat.xor_assoc, Nat.xor_assoc, ← Nat.xor_assoc b, ← Nat.xor_assoc c, Nat.xor_comm b c]
theorem xor_self_mid (a b c : Nat) : (a ^^^ c) ^^^ (b ^^^ c) = a ^^^ b := by
  rw [xor_swap4, Nat.xor_self, Nat.xor_zero]
theorem m1_right (a b c k : Nat) : m1 a (b ^^^ c) k = m1 a b k ^^^ m1 a c k := by
  induction k with
  | zero => simp [m1]
  | succ k ih =>
    rw [m1_bit, m1_bit, m1_bit, Nat.testBit_xor, ih]
    cases b.testBit k <;> cases c.testBit k <;> simp
    · rw [Nat.xor_assoc]
    · rw [Nat.xor_assoc, Nat.xor_comm (m1 a c k), ← Nat.xor_assoc]
    · rw [xor_self_mid]
theorem mul_two_pow_xor (a b k : Nat) : (a ^^^ b) * 2 ^ k = (a * 2 ^ k) ^^^ (b * 2 ^ k) := by
  rw [← Nat.shiftLeft_eq, ← Nat.shiftLeft_eq, ← Nat.shiftLeft_eq, Nat.shiftLeft_xor_distrib]
theorem m1_left (a b c k : Nat) : m1 (a ^^^ b) c k = m1 a c k ^^^ m1 b c k := by
  induction k with
  | zero => simp [m1]
  | succ k ih =>
    rw [m1_bit, m1_bit, m1_bit, ih]
    cases c.testBit k <;> simp
    rw [mul_two_pow_xor, xor_swap4]
theorem m2_xor (p q k : Nat) : m2 (p ^^^ q) k = m2 p k ^^^ m2 q k := by
  induction k with
  | zero => simp [m2]
  | succ k ih =>
    rw [m2_bit, m2_bit, m2_bit, ih, Nat.testBit_xor]
    cases (m2 p k).testBit (14 - k) <;> cases (m2 q k).testBit (14 - k) <;> simp
    · rw [Nat.xor_assoc]
    · rw [Nat.xor_assoc, Nat.xor_comm (m2 q k), ← Nat.xor_assoc]
    · rw [xor_self_mid]
theorem mod256_xor (p q : Nat) : (p ^^^ q) % 256 = p % 256 ^^^ q % 256 := by
  have := Nat.xor_mod_two_pow (a := p) (b := q) (n := 8)
  simpa using this
theorem gm_right (a b c : Nat) : gm a (b ^^^ c) = gm a b ^^^ gm a c := by
  unfold gm; rw [m1_right, m2_xor, mod256_xor]
theorem gm_left (a b c : Nat) : gm (a ^^^ b) c = gm a c ^^^ gm b c := by
  unfold gm; rw [m1_left, m2_xor, mod256_xor]
/-- what goes through sums, and agrees on the eight bits, agrees -/
def bitOf (x i : Nat) : Nat := if x / 2 ^ i % 2 = 1 then 2 ^ i else 0
theorem bits8 : ∀ x, x < 256 → x = bitOf x 0 ^^^ (bitOf x 1 ^^^ (bitOf x 2 ^^^ (bitOf x 3 ^^^ (bitOf x 4 ^^^ (bitOf x 5 ^^^ (bitOf x 6 ^^^ bitOf x 7)))))) := by decide +kernel
def Lin (f : Nat → Nat) : Prop := ∀ x y, f (x ^^^ y) = f x ^^^ f y
theorem Lin.zero {f : Nat → Nat} (h : Lin f) : f 0 = 0 := by
  have := h 0 0
  simpa using this
theorem lin_ext {f g : Nat → Nat} (hf : Lin f) (hg : Lin g) (h : ∀ i, i < 8 → f (2 ^ i) = g (2 ^ i)) (x : Nat) (hx : x < 256) : f x = g x := by
  have hb : ∀ i, i < 8 → f (bitOf x i) = g (bitOf x i) := by
    intro i hi
    unfold bitOf
    split
    · exact h i hi
    · rw [hf.zero, hg.zero]
  rw [bits8 x hx]
  simp only [hf _ _, hg _ _]
  rw [hb 0 (by omega), hb 1 (by omega), hb 2 (by omega), hb 3 (by omega), hb 4 (by omega), hb 5 (by omega), hb 6 (by omega), hb 7 (by omega)]
theorem gm_linR (a : Nat) : Lin (gm a) := fun x y => gm_right a x y
theorem gm_linL (a : Nat) : Lin (fun x => gm x a) := fun x y => gm_left x y a
theorem gm_comm0 : ∀ i, i < 8 → ∀ j, j < 8 → gm (2 ^ i) (2 ^ j) = gm (2 ^ j) (2 ^ i) := by decide +kernel
theorem gm_comm (a b : Nat) (ha : a < 256) (hb : b < 256) : gm a b = gm b a :=
  lin_ext (gm_linR a) (gm_linL a) (fun i hi => lin_ext (f := fun x => gm x (2 ^ i)) (g := fun x => gm (2 ^ i) x) (gm_linL _) (gm_linR _) (fun j hj => gm_comm0 j hj i hi) a ha) b hb
theorem gm_assoc0 : ∀ i, i < 8 → ∀ j, j < 8 → ∀ k, k < 8 → gm (gm (2 ^ i) (2 ^ j)) (2 ^ k) = gm (2 ^ i) (gm (2 ^ j) (2 ^ k)) := by decide +kernel
theorem gm_assoc (a b c : Nat) (ha : a < 256) (hb : b < 256) (hc : c < 256) : gm (gm a b) c = gm a (gm b c) := by
  refine lin_ext (f := fun x => gm (gm x b) c) (g := fun x => gm x (gm b c)) (fun x y => by simp only [gm_left]) (gm_linL _) (fun i hi => ?_) a ha
  refine lin_ext (f := fun x => gm (gm (2 ^ i) x) c) (g := fun x => gm (2 ^ i) (gm x c)) (fun x y => by simp only [gm_right, gm_left]) (fun x y => by simp only [gm_right, gm_left]) (fun j hj => ?_) b hb
  exact lin_ext (f := fun x => gm (gm (2 ^ i) (2 ^ j)) x) (g := fun x => gm (2 ^ i) (gm (2 ^ j) x)) (gm_linR _) (fun x y => by simp only [gm_right]) (fun k hk => gm_assoc0 i hi j hj k hk) c hc
theorem gm_one0 : ∀ i, i < 8 → gm (2 ^ i) 1 = 2 ^ i := by decide +kernel
theorem gm_one (a : Nat) (ha : a < 256) : gm a 1 = a := lin_ext (gm_linL 1) (g := fun x => x) (fun _ _ => rfl) gm_one0 a ha
theorem gm_zero (a : Nat) : gm a 0 = 0 := (gm_linR a).zero
theorem zero_gm (a : Nat) : gm 0 a = 0 := (gm_linL a).zero
theorem gm_three0 : ∀ x, x < 256 → gm x 3 = x ^^^ tw x := by decide +kernel
theorem gpow3 (k : Nat) : gpow 3 k = gexp k := by
  induction k with
  | zero => rfl
  | succ k ih => rw [gpow, ih, gm_three0 _ (gexp_lt k)]; rfl
theorem gexp_succ (k : Nat) : gexp (k + 1) = gm (gexp k) 3 := by rw [gm_three0 _ (gexp_lt k)]; rfl
theorem gexp_add (i j : Nat) : gm (gexp i) (gexp j) = gexp (i + j) := by
  induction j with
  | zero => exact gm_one _ (gexp_lt i)
  | succ j ih => rw [gexp_succ j, ← gm_assoc _ _ _ (gexp_lt i) (gexp_lt j) (by omega), ih, ← gexp_succ]; rfl
def tbL : Nat → List Nat
  | 0 => List.replicate 512 0
  | k + 1 => ((tbL k).set k (gexp k)).set (256 + gexp k) k
theorem tbL_is (k : Nat) : (tbN k).toList = tbL k := by
  induction k with
  | zero => simp [tbN, tbL]
  | succ k ih => simp [tbN, tbL, ih]
/-- the tables written out -/
def flit : List Nat := [1, 3, 5, 15, 17, 51, 85, 255, 26, 46, 114, 150, 161, 248, 19, 53, 95, 225, 56, 72, 216, 115, 149, 164, 247, 2, 6, 10, 30, 34, 102, 170, 229, 52, 92, 228, 55, 89, 235, 38, 106, 190, 217, 112, 144, 171, 230, 49, 83, 245, 4, 12, 20, 60, 68, 204, 79, 209, 104, 184, 211, 110, 178, 205, 76, 212, 103, 169, 224, 59, 77, 215, 98, 166, 241, 8, 24, 40, 120, 136, 131, 158, 185, 208, 107, 189, 220, 127, 129, 152, 179, 206, 73, 219, 118, 154, 181, 196, 87, 249, 16, 48, 80, 240, 11, 29, 39, 105, 187, 214, 97, 163, 254, 25, 43, 125, 135, 146, 173, 236, 47, 113, 147, 174, 233, 32, 96, 160, 251, 22, 58, 78, 210, 109, 183, 194, 93, 231, 50, 86, 250, 21, 63, 65, 195, 94, 226, 61, 71, 201, 64, 192, 91, 237, 44, 116, 156, 191, 218, 117, 159, 186, 213, 100, 172, 239, 42, 126, 130, 157, 188, 223, 122, 142, 137, 128, 155, 182, 193, 88, 232, 35, 101, 175, 234, 37, 111, 177, 200, 67, 197, 84, 252, 31, 33, 99, 165, 244, 7, 9, 27, 45, 119, 153, 176, 203, 70, 202, 69, 207, 74, 222, 121, 139, 134, 145, 168, 227, 62, 66, 198, 81, 243, 14, 18, 54, 90, 238, 41, 123, 141, 140, 143, 138, 133, 148, 167, 242, 13, 23, 57, 75, 221, 124, 132, 151, 162, 253, 28, 36, 108, 180, 199, 82, 246, 1, 0, 0, 25, 1, 50, 2, 26, 198, 75, 199, 27, 104, 51, 238, 223, 3, 100, 4, 224, 14, 52, 141, 129, 239, 76, 113, 8, 200, 248, 105, 28, 193, 125, 194, 29, 181, 249, 185, 39, 106, 77, 228, 166, 114, 154, 201, 9, 120, 101, 47, 138, 5, 33, 15, 225, 36, 18, 240, 130, 69, 53, 147, 218, 142, 150, 143, 219, 189, 54, 208, 206, 148, 19, 92, 210, 241, 64, 70, 131, 56, 102, 221, 253, 48, 191, 6, 139, 98, 179, 37, 226, 152, 34, 136, 145, 16, 126, 110, 72, 195, 163, 182, 30, 66, 58, 107, 40, 84, 250, 133, 61, 186, 43, 121, 10, 21, 155, 159, 94, 202, 78, 212, 172, 229, 243, 115, 167, 87, 175, 88, 168, 80, 244, 234, 214, 116, 79, 174, 233, 213, 231, 230, 173, 232, 44, 215, 117, 122, 235, 22, 11, 245, 89, 203, 95, 176, 156, 169, 81, 160, 127, 12, 246, 111, 23, 196, 73, 236, 216, 67, 31, 45, 164, 118, 123, 183, 204, 187, 62, 90, 251, 96, 177, 134, 59, 82, 161, 108, 170, 85, 41, 157, 151, 178, 135, 144, 97, 190, 220, 252, 188, 149, 207, 205, 55, 63, 91, 209, 83, 57, 132, 60, 65, 162, 109, 71, 20, 42, 158, 93, 86, 242, 211, 171, 68, 17, 146, 217, 35, 32, 46, 137, 180, 124, 184, 38, 119, 153, 227, 165, 103, 74, 237, 222, 197, 49, 254, 24, 13, 99, 140, 128, 192, 247, 112, 7]
theorem flit_is : ((tbL 255).set 255 (gexp 255)).set 256 0 = flit := by decide +kernel
theorem ftab_lit : ftab.toList = flit := by
  rw [← flit_is, ← tbL_is]; simp [ftab]
theorem tg_toList (t : Array Nat) (i : Nat) : tg t i = t.toList.getD i 0 := by simp [tg]
theorem tg_big (t : Array Nat) (i : Nat) (h : t.size ≤ i) : tg t i = 0 := by simp [tg, Array.getD, show ¬ i < t.size by omega]
theorem tg_is (i : Nat) : tg ftab i = flit.getD i 0 := by rw [tg_toList, ftab_lit]
theorem flit_next : ∀ i, i < 255 → flit.getD (i + 1) 0 = flit.getD i 0 ^^^ tw (flit.getD i 0) := by decide +kernel
theorem flit_low (i : Nat) (h : i < 256) : flit.getD i 0 = gexp i := by
  induction i with
  | zero => rfl
  | succ i ih => rw [flit_next i (by omega), ih (by omega)]; rfl
theorem flit_log0 : ∀ a, a < 256 → (a = 0 ∨ flit.getD (flit.getD (256 + a) 0) 0 = a) ∧ flit.getD (256 + a) 0 < 255 := by decide +kernel
theorem flit_log (a : Nat) (h : a < 256) : (a = 0 ∨ gexp (flit.getD (256 + a) 0) = a) ∧ flit.getD (256 + a) 0 < 255 := by
  have h0 := flit_log0 a h
  rw [← flit_low _ (by omega)]
  exact h0
theorem gexp_255 : gexp 255 = 1 := by rw [← flit_low 255 (by omega)]; rfl
theorem gexp_period (i : Nat) : gexp (i + 255) = gexp i := by rw [← gexp_add, gexp_255, gm_one _ (gexp_lt i)]
theorem gexp_mod (i : Nat) : gexp (i % 255) = gexp i := by
  have h : ∀ q r, gexp (r + 255 * q) = gexp r := by
    intro q
    induction q with
    | zero => intro r; rfl
    | succ q ih => intro r; rw [show r + 255 * (q + 1) = (r + 255 * q) + 255 from by omega, gexp_period, ih]
  have := h (i / 255) (i % 255)
  rw [show i % 255 + 255 * (i / 255) = i from by omega] at this
  exact this.symm
theorem ftab_low (i : Nat) (h : i < 256) : tg ftab i = gexp i := by rw [tg_is]; exact flit_low i h
theorem ftab_log (a : Nat) (h : a < 256) : (a = 0 ∨ gexp (tg ftab (256 + a)) = a) ∧ tg ftab (256 + a) < 255 := by rw [tg_is]; exact flit_log a h
theorem ftab_log0 : tg ftab 256 = 0 := by rw [tg_is]; rfl
theorem ftab_log1 : tg ftab 257 = 0 := by rw [tg_is]; rfl
theorem ftab_small : Small ftab := by
  refine ⟨ftab_size, fun i => ?_⟩
  by_cases h : i < 512
  · by_cases h2 : i < 256
    · rw [ftab_low i h2]; exact gexp_lt i
    · have := (ftab_log (i - 256) (by omega)).2
      rw [show 256 + (i - 256) = i from by omega] at this; omega
  · rw [tg_big ftab i (by rw [ftab_size]; omega)]; omega
theorem tmul_is (a b : Nat) (ha : a < 256) (hb : b < 256) : tmul ftab a b = gm a b := by
  unfold tmul
  by_cases h0 : a = 0
  · subst h0; rw [if_pos (.inl rfl), zero_gm]
  by_cases h1 : b = 0
  · subst h1; rw [if_pos (.inr rfl), gm_zero]
  rw [if_neg (by omega), ftab_low _ (by omega), gexp_mod, ← gexp_add]
  have h2 := (ftab_log a ha).1
  have h3 := (ftab_log b hb).1
  rw [h2.resolve_left h0, h3.resolve_left h1]
theorem gm_tinv (a : Nat) (ha : a < 256) (h0 : a ≠ 0) : gm a (tinv ftab a) = 1 := by
  obtain ⟨h1, h2⟩ := ftab_log a ha
  have h3 := h1.resolve_left h0
  unfold tinv
  rw [if_neg h0, ftab_low _ (by omega)]
  generalize tg ftab (256 + a) = l at *
  rw [← h3, gexp_add, show l + (255 - l) = 255 from by omega, gexp_255]
theorem gm_cancel (a b : Nat) (ha : a < 256) (hb : b < 256) (h0 : b ≠ 0) : gm (gm a b) (tinv ftab b) = a := by
  rw [gm_assoc _ _ _ ha hb (tinv_lt ftab_small b), gm_tinv b hb h0, gm_one a ha]
theorem rinvFrom_spec (a : Nat) : ∀ f i, (∃ j, i ≤ j ∧ j < i + f ∧ gm a j = 1) → gm a (rinvFrom a f i) = 1 ∧ rinvFrom a f i < i + f
  | 0, i, ⟨j, h1, h2, _⟩ => by omega
  | f + 1, i, ⟨j, h1, h2, h3⟩ => by
    unfold rinvFrom
    split
    · rename_i h; exact ⟨h, by omega⟩
    · rename_i h
      have hne : j ≠ i := fun e => h (by rw [← e]; exact h3)
      have := rinvFrom_spec a f (i + 1) ⟨j, by omega, by omega, h3⟩
      exact ⟨this.1, by omega⟩
theorem gm_tinv_ne (a : Nat) (ha : a < 256) (h0 : a ≠ 0) : tinv ftab a ≠ 0 := fun h => by
  have := gm_tinv a ha h0
  rw [h, gm_zero] at this; omega
theorem rinv_is (a : Nat) (ha : a < 256) (h0 : a ≠ 0) : rinv a = tinv ftab a := by
  have hl := tinv_lt ftab_small a
  obtain ⟨h1, h2⟩ := rinvFrom_spec a 255 1 ⟨tinv ftab a, by have := gm_tinv_ne a ha h0; omega, by omega, gm_tinv a ha h0⟩
  have hr : rinv a < 256 := h2
  have e1 : gm (rinv a) (gm a (tinv ftab a)) = rinv a := by rw [gm_tinv a ha h0, gm_one _ hr]
  rw [← gm_assoc _ _ _ hr ha hl, gm_comm _ _ hr ha] at e1
  have h1' : gm a (rinv a) = 1 := h1
  rw [h1', gm_comm 1 _ (by omega) hl, gm_one _ hl] at e1
  exact e1.symm
/-- a polynomial's value by definition, from a power on -/
def pvF (x : Nat) : List Nat → Nat → Nat
  | [], _ => 0
  | c :: l, p => gm c p ^^^ pvF x l (gm p x)
/-- Horner's -/
def hv (x : Nat) : List Nat → Nat
  | [] => 0
  | c :: l => gm (hv x l) x ^^^ c
theorem hv_lt (x : Nat) : ∀ l : List Nat, (∀ c ∈ l, c < 256) → hv x l < 256
  | [], _ => by simp [hv]
  | c :: l, h => Nat.xor_lt_two_pow (n := 8) (gm_lt _ _) (h c (by simp))
theorem teval_is (x : Nat) (hx : x < 256) : ∀ l : List Nat, (∀ c ∈ l, c < 256) → teval ftab x l = hv x l
  | [], _ => rfl
  | c :: l, h => by
    have hl : ∀ c ∈ l, c < 256 := fun c hc => h c (by simp [hc])
    rw [teval, hv, teval_is x hx l hl, tmul_is _ _ (hv_lt x l hl) hx]
theorem pv_hv (x : Nat) (hx : x < 256) : ∀ (l : List Nat) (p : Nat), (∀ c ∈ l, c < 256) → p < 256 → pvF x l p = gm (hv x l) p
  | [], p, _, _ => by rw [pvF, hv, zero_gm]
  | c :: l, p, h, hp => by
    have hl : ∀ c ∈ l, c < 256 := fun c hc => h c (by simp [hc])
    rw [pvF, hv, pv_hv x hx l (gm p x) hl (gm_lt _ _), gm_left, gm_comm p x hp hx, gm_assoc _ _ _ (hv_lt x l hl) hx hp, Nat.xor_comm]
theorem gpow_succ' (x k : Nat) (hx : x < 256) : gm x (gpow x k) = gpow x (k + 1) := by
  rw [gm_comm _ _ hx (gpow_lt x k)]; rfl
theorem reval_pv (x : Nat) (l : List Nat) : ∀ (n k : Nat), k + n = l.length → reval x l l.length = reval x l k ^^^ pvF x (l.drop k) (gpow x k)
  | 0, k, h => by
    have hk : k = l.length := by omega
    rw [hk, List.drop_length, pvF, Nat.xor_zero]
  | n + 1, k, h => by
    have hk : k < l.length := by omega
    rw [reval_pv x l n (k + 1) (by omega), List.drop_eq_getElem_cons hk, pvF, reval, List.getD_eq_getElem?_getD, List.getElem?_eq_getElem hk, Nat.xor_assoc]
    rfl
theorem reval_is (x : Nat) (hx : x < 256) (l : List Nat) (hl : ∀ c ∈ l, c < 256) : reval x l l.length = hv x l := by
  rw [reval_pv x l l.length 0 (by omega)]
  simp only [reval, List.drop_zero, gpow, Nat.zero_xor]
  rw [pv_hv x hx l 1 hl (by omega), gm_one _ (hv_lt x l hl)]
end Go.Proofs.YtdbfikcpaionbaaDoor
/- Sums of polynomials. -/
namespace Go.Proofs.YtdbfikcpaionbaaDoor
def finv (a : Nat) : Nat := tinv ftab a
theorem finv_lt (a : Nat) : finv a < 256 := tinv_lt ftab_small a
/-- the sum of two polynomials -/
def zx : List Nat → List Nat → List Nat
  | [], m => m
  | c :: l, [] => c :: l
  | c :: l, d :: m => (c ^^^ d) :: zx l m
theorem zx_nil (l : List Nat) : zx l [] = l := by cases l <;> rfl
theorem zx_len : ∀ l m : List Nat, (zx l m).length = max l.length m.length
  | [], m => by simp [zx]
  | c :: l, [] => by simp [zx]
  | c :: l, d :: m => by simp [zx, zx_len l m]
theorem zx_at : ∀ (l m : List Nat) (k : Nat), (zx l m).getD k 0 = l.getD k 0 ^^^ m.getD k 0
  | [], m, k => by simp [zx]
  | c :: l, [], k => by simp [zx]
  | c :: l, d :: m, 0 => by simp [zx]
  | c :: l, d :: m, k + 1 => by simpa [zx] using zx_at l m k
theorem zx_lt : ∀ l m : List Nat, (∀ c ∈ l, c < 256) → (∀ c ∈ m, c < 256) → ∀ c ∈ zx l m, c < 256
  | [], m, _, hm => by simpa [zx] using hm
  | c :: l, [], hl, _ => by simpa [zx] using hl
  | c :: l, d :: m, hl, hm => by
    intro e he
    rcases List.mem_cons.1 he with rfl | he
    · exact Nat.xor_lt_two_pow (n := 8) (hl c (by simp)) (hm d (by simp))
    · exact zx_lt l m (fun c hc => hl c (by simp [hc])) (fun c hc => hm c (by simp [hc])) e he
theorem hv_zx (x : Nat) : ∀ l m : List Nat, hv x (zx l m) = hv x l ^^^ hv x m
  | [], m => by simp [zx, hv]
  | c :: l, [] => by simp [zx, hv]
  | c :: l, d :: m => by rw [zx, hv, hv, hv, hv_zx x l m, gm_left, xor_swap4]
theorem hv_cons0 (x : Nat) (hx : x < 256) (l : List Nat) (hl : ∀ c ∈ l, c < 256) : hv x (0 :: l) = gm x (hv x l) := by
  rw [hv, Nat.xor_zero, gm_comm _ _ (hv_lt x l hl) hx]
theorem take_snoc (l : List Nat) (k : Nat) (h : k < l.length) : l.take (k + 1) = l.take k ++ [l.getD k 0] := by
  rw [List.take_succ_eq_append_getElem h, List.getD_eq_getElem?_getD, List.getElem?_eq_getElem h]; rfl
end Go.Proofs.YtdbfikcpaionbaaDoor
