/- Parts, one behind the other: Kit Lift Sha0 ShaA ShaF ShaC LiftL Open ShaB App Only Eq Byt0 Byt2 Byt3. -/
import Derived.Test.YtbgnjjbmidkhlaaDoorRows
import Derived.Test.YtbgnjjbmidkhlaaDoorChecked
import Derived.WalkKit
import Derived.Deep.Draws
import Derived.Deep.QuietTactic
import Derived.BigQuiet
import Derived.ProofKit
import Derived.OpenShut
import Derived.ShutString
import Derived.ChangeOld
import Derived.Below
import Derived.LaidMore
import Derived.Lib.LaidTab
import Derived.MakeChecks
import Derived.Stop.Joined
import Derived.Laws.BitsAllLaws
import Derived.Maps.AppendAt
import Derived.Laws.AppendOwnNone
import Derived.Deep.AppendLies
import Derived.OwnWalk
import Derived.DeepKeys
import Derived.Laws.StructEq
import Derived.WalkSpells
import Derived.Outline
import Derived.Deep.Light
import Derived.BigRegion
import Derived.Lib.Hide
import Derived.Laws.MakeOwn
/- Small laws on worlds: a block that is known whole. -/
namespace Go.Proofs.YtbgnjjbmidkhlaaDoor
set_option linter.unusedVariables false
set_option linter.unusedSimpArgs false
set_option maxRecDepth 100000
open Go.RowKit
theorem cellOf {w : World} {B i : Nat} {cs : Array Value} {T : TypeId} {fz : Nat × Nat} {v : Value} (h : w.heap[B]? = some (.cells cs T fz)) (hv : cs[i]? = some v) : w.cell? ⟨B, i, none⟩ = some v := by
  simp [World.cell?, h, hv]
theorem freeOf {w : World} {B i : Nat} {cs : Array Value} {T : TypeId} (h : w.heap[B]? = some (.cells cs T (0, 0))) : w.frozen? ⟨B, i, none⟩ = false := by
  simp [World.frozen?, h]
theorem heapSet {w : World} {B i : Nat} {cs : Array Value} {T : TypeId} {fz : Nat × Nat} (v : Value) (h : w.heap[B]? = some (.cells cs T fz)) : (w.setCell ⟨B, i, none⟩ v).heap[B]? = some (.cells (cs.setIfInBounds i v) T fz) := by
  simp only [World.setCell, Array.getElem?_modify, if_true, h]; rfl
theorem heapSize_set (w : World) (a : Addr) (v : Value) : (w.setCell a v).heap.size = w.heap.size := by simp [World.setCell]
theorem heapDrew (w : World) : w.drew.heap = w.heap := rfl
theorem heapDrewN (w : World) (n : Nat) : (w.drewN n).heap = w.heap := rfl
theorem heapNew (w : World) (o : Obj) : (w.alloc o).heap[w.heap.size]? = some o := by
  show (w.heap.push o)[w.heap.size]? = some o
  simp
theorem belowDrewN {B : Nat} {a w : World} (n : Nat) (h : Below B a w) : Below B a (w.drewN n) := ⟨h.os, h.tape, h.output, h.size, h.block⟩
theorem u8_of_i64 {n m : Int} (h : n = m) : Value.int .u8 n = Value.int .u8 m := by rw [h]
theorem add_block (a : Addr) (n : Nat) : (a.add n).block = a.block := by unfold Addr.add; split <;> rfl
/-- from this address on lie these cells, below block B; nothing is said of the address of no cells -/
def Rd (w : World) (B : Nat) (A : Option Addr) (xs : List Value) : Prop :=
  xs ≠ [] → ∃ ad, A = some ad ∧ ad.block < B ∧ ∀ (j : Nat) (u : Value), xs[j]? = some u → w.cell? (ad.add j) = some u
theorem Rd.nil_ (w : World) (B : Nat) (A : Option Addr) : Rd w B A [] := fun h => absurd rfl h
theorem Rd.keep {w w' : World} {B : Nat} {A : Option Addr} {xs : List Value} (h : Rd w B A xs) (hk : ∀ p : Addr, p.block < B → w'.cell? p = w.cell? p) : Rd w' B A xs := fun hn => by
  obtain ⟨ad, e, hb, hc⟩ := h hn
  exact ⟨ad, e, hb, fun j u hu => (hk _ (by rw [add_block]; exact hb)).trans (hc j u hu)⟩
theorem Rd.below {w w' : World} {B : Nat} {A : Option Addr} {xs : List Value} (h : Rd w B A xs) (hb : Below B w w') : Rd w' B A xs := h.keep fun _ hp => hb.cell hp
theorem Rd.more {w : World} {B B' : Nat} {A : Option Addr} {xs : List Value} (h : Rd w B A xs) (hB : B ≤ B') : Rd w B' A xs := fun hn => by
  obtain ⟨ad, e, hb, hc⟩ := h hn
  exact ⟨ad, e, by omega, hc⟩
/-- numbers as bytes -/
def byt (l : List Nat) : List Value := l.map fun (n : Nat) => Value.int .u8 (n : Int)
theorem byt_len (l : List Nat) : (byt l).length = l.length := by simp [byt]
theorem byt_at {l : List Nat} {k : Nat} (h : k < l.length) : (byt l)[k]? = some (.int .u8 (l.getD k 0 : Nat)) := by
  simp [byt, h, List.getD_eq_getElem?_getD]
theorem Rd.byte {w : World} {B : Nat} {A : Option Addr} {l : List Nat} (h : Rd w B A (byt l)) {k : Nat} (hk : k < l.length) :
    ∃ ad, A = some ad ∧ ad.block < B ∧ w.cell? (ad.add k) = some (.int .u8 (l.getD k 0 : Nat)) := by
  obtain ⟨ad, e, hb, hc⟩ := h (fun h0 => by have := byt_len l; rw [h0] at this; simp at this; omega)
  exact ⟨ad, e, hb, hc k _ (byt_at hk)⟩
theorem getD_lt {l : List Nat} (h : ∀ c ∈ l, c < 256) (k : Nat) : l.getD k 0 < 256 := by
  rw [List.getD_eq_getElem?_getD]
  rcases Nat.lt_or_ge k l.length with hk | hk
  · rw [List.getElem?_eq_getElem hk]; exact h _ (List.getElem_mem _)
  · rw [List.getElem?_eq_none hk]; simp
theorem drop_lt {l : List Nat} (h : ∀ c ∈ l, c < 256) (k : Nat) : ∀ c ∈ l.drop k, c < 256 := fun c hc => h c (List.mem_of_mem_drop hc)
/-- a region that draws its order, each operation quiet in a class of worlds 'W x' -/
theorem wp_region_class {P : Program} {Om : Type} (W : Om → World) {id : Nat} {Q : Exit → Act → World → Prop} {a : Act} {w : World} {l : List Oper} (hm : P.follows .mixedOrders = true) (hB : Region.lexB .any l.toArray = true) (hC : ∃ x, w.drew = W x)
    (h : wpQuiet P l.toArray (fun w' => ∃ x, w' = W x) (fun a' => ∀ w', (∃ x, w' = W x) → Q .normal a' w') l a) : (Code.region id l.toArray true).wp P Q a w :=
  wp_region_quiet (C := fun w' => ∃ x, w' = W x) hm hB hC (by simpa using h)
/-- the worlds that extend w0 -/
def Ext (w0 : World) : Type := { w : World // Below w0.heap.size w0 w }
instance Ext.some_ {w0 : World} : Nonempty (Ext w0) := ⟨⟨w0, Below.refl _ _⟩⟩
def Ext.wd {w0 : World} (x : Ext w0) : World := x.1
theorem Ext.of {w0 w : World} (h : Below w0.heap.size w0 w) : ∃ x : Ext w0, w = x.wd := ⟨⟨w, h⟩, rfl⟩
theorem Ext.bel {w0 : World} (x : Ext w0) : Below w0.heap.size w0 x.wd := x.2
theorem Ext.cell {w0 : World} (x : Ext w0) {a : Addr} {v : Value} (h : w0.cell? a = some v) : x.wd.cell? a = some v := by
  have hb : a.block < w0.heap.size := by
    rcases Nat.lt_or_ge a.block w0.heap.size with h1 | h1
    · exact h1
    · simp [World.cell?, Array.getElem?_eq_none h1] at h
  exact (x.2.cell hb).trans h
/-- a callee that makes memory, but hands back a plain value -/
theorem ext_call {P : Program} {f : FuncId} {args : Array Value} {w0 : World} {x : Ext w0} {v : Value}
    (h : Calls P f args x.wd fun e w' => e = .returned v ∧ Below x.wd.heap.size x.wd w') : Calls P f args x.wd fun e w'' => e = .returned v ∧ ∃ y : Ext w0, w'' = y.wd :=
  h.mono fun _ _ ⟨he, hb⟩ => ⟨he, Ext.of (x.2.trans (hb.mono x.2.size))⟩
theorem ext_quiet {P : Program} {f : FuncId} {args : Array Value} {w0 : World} {x : Ext w0} {v : Value}
    (h : Calls P f args x.wd fun e w' => e = .returned v ∧ ∃ n, w' = x.wd.drewN n) : Calls P f args x.wd fun e w'' => e = .returned v ∧ ∃ y : Ext w0, w'' = y.wd :=
  h.mono fun _ _ ⟨he, n, hb⟩ => ⟨he, Ext.of (hb ▸ belowDrewN n x.2)⟩
theorem ext_same {P : Program} {f : FuncId} {args : Array Value} {w0 : World} {x : Ext w0} {v : Value}
    (h : Calls P f args x.wd fun e w' => e = .returned v ∧ x.wd = w') : Calls P f args x.wd fun e w'' => e = .returned v ∧ ∃ y : Ext w0, w'' = y.wd :=
  h.mono fun _ _ ⟨he, hb⟩ => ⟨he, x, hb.symm⟩
/-- what a law's walk shows -/
def Yes (w : World) (e : Ending) (w' : World) : Prop := e = .returned (.bool true) ∧ Below w.heap.size w w'
end Go.Proofs.YtbgnjjbmidkhlaaDoor
/- From a law's walk (it returns true, and nothing that was there has turned) to the law's row. -/
namespace Go.Proofs.YtbgnjjbmidkhlaaDoor
set_option linter.unusedVariables false
set_option linter.unusedSimpArgs false
set_option maxRecDepth 100000
open Go.ChangeShapes Go.WideShapes Go.ChangeAt Go.RowKit
theorem own : ownKnob Tryd.prog.godebug = none := by kernel_rfl
theorem laidOut : laidOutB Tryd.prog = true := by kernel_rfl
theorem trodAll_below {H : Type} {enc : TypeId × Value → H} {P : Program} (hl : laidOutB P = true) {W W' : World} (hb : Below W.heap.size W W') :
    ∀ (ts : List TypeId) (vs : List Value) (ds : List (DataW H)) (ps : List MemPlace), (∀ t ∈ ts, P.readableRec t = true ∧ t < P.types.size) →
      DataW.TrodAll enc P W 0 (fun _ => true) true ts vs ds ps → (∀ x ∈ ps, x.block < W.heap.size) →
      DataW.TrodAll enc P W' 0 (fun b => decide (b < W.heap.size)) true ts vs ds ps
  | [], vs, ds, ps, _, h, _ => by
    obtain ⟨rfl, rfl, rfl⟩ := trodAll_nil h
    exact trodAll_mk0
  | t :: ts, vs, ds, ps, ht, h, hlt => by
    obtain ⟨v0, vs0, d0, ds0, p0, q0, rfl, rfl, rfl, h0, r0⟩ := trodAll_cons h
    have h1 := ht t (by simp)
    exact trodAll_cons_mk (Below.trod hl h1.1 h1.2 h0 hb (fun x hx => hlt x (by simp [hx])))
      (trodAll_below hl hb ts vs0 ds0 q0 (fun t' h' => ht t' (by simp [h'])) r0 (fun x hx => hlt x (by simp [hx])))
theorem trodAll_length {H : Type} {enc : TypeId × Value → H} {P : Program} {W : World} {b : Nat} {sp : Nat → Bool} {hd : Bool} :
    ∀ (ts : List TypeId) (vs : List Value) (ds : List (DataW H)) (ps : List MemPlace), DataW.TrodAll enc P W b sp hd ts vs ds ps → ds.length = ts.length
  | [], vs, ds, ps, h => by
    obtain ⟨rfl, rfl, rfl⟩ := trodAll_nil h
    rfl
  | t :: ts, vs, ds, ps, h => by
    obtain ⟨v0, vs0, d0, ds0, p0, q0, rfl, rfl, rfl, h0, r0⟩ := trodAll_cons h
    simp [trodAll_length ts vs0 ds0 q0 r0]
/-- the law's specification: true, and the input as it was -/
def LawSpec (s : ChangeSpec) (n : Nat) : Prop := s.vars = [] ∧ ∀ (H : Type) (ds : List (DataW H)), ds.length = n → s.fn H ds = { results := [.lit (.bool true)], args := ds }
theorem lift {os : Os} (started : os.Started) {H : Type} {enc : TypeId × Value → H} (f : FuncId) {fn : Func} {s : ChangeSpec} {conds : List PathCond} (hconds : conds = [])
    (noInit : Tryd.checked.prog.inits.idxOf? f = none) (hfn : Tryd.checked.prog.funcs[f]? = some fn) (hs : LawSpec s fn.params.toList.length) (hres : fn.resultTypes = #[4])
    (hts : ∀ t ∈ fn.params.toList, Tryd.prog.readableRec t = true ∧ t < Tryd.prog.types.size)
    (witness : ∃ (w : World) (tape : Tape) (i : Input), w.os = os ∧ (w.forCall tape i).Shaped Tryd.checked.prog ∧ i.vars = [] ∧ Input.okWide Tryd.checked.prog (w.forCall tape i) .any w.heap.size f i ∧
      s.pre6 enc Tryd.checked.prog fn conds false (w.forCall tape i).memory i.args ∧ Assume.holds {} Tryd.checked.prog (lone (Frame.enter Tryd.checked.prog f i.args .normal) [] (w.forCall tape i)))
    (walk : ∀ (W : World) (base : Nat) (args : Array Value) (ds : List (DataW H)) (ps : List MemPlace),
      (∀ (j : Nat) t v, fn.params[j]? = some t → args[j]? = some v → Value.okWide Tryd.prog W .any base t v) →
      DataW.TrodAll enc Tryd.prog W 0 (fun _ => true) true fn.params.toList args.toList ds ps → (∀ x ∈ ps, x.block < W.heap.size) → Calls Tryd.prog f args W (Yes W)) :
    ReturnsInHanded {} Tryd.checked os f .any (s.pre6 enc Tryd.prog fn conds false) (s.post enc Tryd.prog fn false true false false) := by
  subst hconds
  refine returnsInHanded_of_change (C := Tryd.checked) own started noInit hfn witness ?_
  intro W base args ds gs before hval hW _ _
  have hW' := hW
  have hlt : ∀ p ∈ before, p.block < W.heap.size := fun p hp => hW.lt p hp
  obtain ⟨p, q, hA, hV, hbef, hfz, hnd⟩ := hW
  rw [hs.1] at hV
  obtain ⟨rfl, rfl⟩ := trodVars_none hV
  rw [List.append_nil] at hbef
  subst hbef
  refine (walk W base args ds _ hval hA hlt).mono fun e W' ⟨he, bel⟩ => ?_
  subst he
  have hlen := trodAll_length _ _ _ _ hA
  have hfn' := hs.2 H ds hlen
  refine ⟨_, rfl, ?_⟩
  refine ⟨ds, [], before, [], before, [], hW', ?_, ?_, ?_, bel.frame _, fun h => by cases h⟩
  · rw [List.append_nil, hfn', hres]
    exact trodAll_mk1 (shut_bool Tryd.underlying4 _)
  · rw [List.append_nil, hfn']
    exact trodAll_below laidOut bel _ _ _ _ hts hA hlt
  · rw [List.append_nil, hfn', hs.1]; rfl
theorem block_lt {w : World} {a : Addr} {v : Value} (h : w.cell? a = some v) : a.block < w.heap.size := by
  rcases Nat.lt_or_ge a.block w.heap.size with h1 | h1
  · exact h1
  · simp [World.cell?, Array.getElem?_eq_none h1] at h
/-- a []byte that came in -/
theorem open_bytes {H : Type} {enc : TypeId × Value → H} {W : World} {base : Nat} {v : Value} {d : DataW H} {p : List MemPlace} (hv : Value.okWide Tryd.prog W .any base 36 v)
    (h : DataW.Trod enc Tryd.prog W 0 (fun _ => true) true 36 v d p) :
    ∃ (A : Option Addr) (l : List Nat) (cap : Nat), v = .slice A l.length cap ∧ (∀ c ∈ l, c < 256) ∧ Rd W W.heap.size A (byt l) ∧ l.length ≤ maxLen := by
  obtain ⟨A, len, cap, rfl⟩ := okWide_slice Tryd.underlying36 hv
  obtain ⟨fuel, hf⟩ := h
  rcases open_ints Tryd.underlying36 Tryd.underlying5 (by kernel_rfl) hf with ⟨hcs, _⟩ | ⟨x, l, c, zs, hcs, _, hl, hm, hz, _, hcell, hwz⟩
  · simp [Value.cells] at hcs
    obtain ⟨rfl, rfl, rfl⟩ := hcs
    exact ⟨none, [], 0, rfl, by simp, Rd.nil_ _ _ _, by simp⟩
  · simp [Value.cells] at hcs
    obtain ⟨rfl, rfl, rfl⟩ := hcs
    have hz' : zs.length = cap := by simpa using hz
    have hlen : ((zs.take len).map Int.toNat).length = len := by simp; omega
    refine ⟨some x, (zs.take len).map Int.toNat, cap, by rw [hlen], ?_, ?_, by rw [hlen]; omega⟩
    · intro c hc
      obtain ⟨z, hz1, rfl⟩ := List.mem_map.1 hc
      have := bounds_u8 (hwz z (List.mem_of_mem_take hz1))
      omega
    · intro hne
      have h0 : 0 < len := by
        rcases Nat.eq_zero_or_pos len with h0 | h0
        · subst h0; simp [byt] at hne
        · exact h0
      have hc0 := hcell 0 (by omega)
      refine ⟨x, rfl, by have := block_lt hc0; rwa [add_block] at this, fun j u hu => ?_⟩
      have hj : j < len := by
        rcases Nat.lt_or_ge j len with h1 | h1
        · exact h1
        · rw [List.getElem?_eq_none (by rw [byt_len, hlen]; exact h1)] at hu; cases hu
      have hjz : j < zs.length := by omega
      rw [hcell j hjz]
      rw [byt_at (by rw [hlen]; exact hj)] at hu
      rw [← hu, List.getD_eq_getElem?_getD, List.getD_eq_getElem?_getD, List.getElem?_map, List.getElem?_take_of_lt hj, List.getElem?_eq_getElem hjz]
      have := bounds_u8 (hwz zs[j] (List.getElem_mem _))
      simp
      omega
end Go.Proofs.YtbgnjjbmidkhlaaDoor
/- Fingerprints: what they are, in plain words. -/
namespace Go.Proofs.YtbgnjjbmidkhlaaDoor
set_option linter.unusedVariables false
set_option linter.unusedSimpArgs false
set_option linter.unusedVariables false
/-- a word turned to the right -/
def rotr (n k : Nat) : Nat := n / 2 ^ k + n % 2 ^ k * 2 ^ (32 - k)
def ad (a b : Nat) : Nat := (a + b) % 4294967296
def s0 (w : Nat) : Nat := rotr w 7 ^^^ rotr w 18 ^^^ w / 8
def s1 (w : Nat) : Nat := rotr w 17 ^^^ rotr w 19 ^^^ w / 1024
def b0 (a : Nat) : Nat := rotr a 2 ^^^ rotr a 13 ^^^ rotr a 22
def b1 (e : Nat) : Nat := rotr e 6 ^^^ rotr e 11 ^^^ rotr e 25
def chf (e f g : Nat) : Nat := (e &&& f) ^^^ ((4294967295 - e) &&& g)
def maj (a b c : Nat) : Nat := (a &&& b) ^^^ (a &&& c) ^^^ (b &&& c)
def be4 (l : List Nat) (i : Nat) : Nat := ((l.getD (4 * i) 0 * 256 + l.getD (4 * i + 1) 0) * 256 + l.getD (4 * i + 2) 0) * 256 + l.getD (4 * i + 3) 0
/-- the next word of a schedule -/
def nxt (l w : List Nat) (n : Nat) : Nat := if n < 16 then be4 l n else ad (ad (ad (w.getD (n - 16) 0) (s0 (w.getD (n - 15) 0))) (w.getD (n - 7) 0)) (s1 (w.getD (n - 2) 0))
def sch (l : List Nat) : Nat → List Nat
  | 0 => []
  | n + 1 => sch l n ++ [nxt l (sch l n) n]
theorem rotr_lt {n k : Nat} (hn : n < 4294967296) (hk : k ≤ 32) : rotr n k < 4294967296 := by
  unfold rotr
  have e : (4294967296 : Nat) = 2 ^ k * 2 ^ (32 - k) := by rw [← Nat.pow_add, show k + (32 - k) = 32 by omega]
  have h1 : n / 2 ^ k < 2 ^ (32 - k) := (Nat.div_lt_iff_lt_mul (Nat.two_pow_pos k)).2 (by rw [Nat.mul_comm]; omega)
  have h2 : n % 2 ^ k + 1 ≤ 2 ^ k := Nat.mod_lt _ (Nat.two_pow_pos k)
  have h3 : (n % 2 ^ k + 1) * 2 ^ (32 - k) ≤ 2 ^ k * 2 ^ (32 - k) := Nat.mul_le_mul_right _ h2
  rw [Nat.add_mul, Nat.one_mul] at h3
  omega
/-- turned once more -/
theorem rotr_succ {n k : Nat} (hn : n < 4294967296) (hk : k < 32) : rotr n (k + 1) = rotr n k / 2 + rotr n k % 2 * 2147483648 := by
  have e1 : 32 - k = 32 - (k + 1) + 1 := by omega
  have e2 : (2 : Nat) ^ (32 - k) = 2 ^ (32 - (k + 1)) * 2 := by rw [e1, Nat.pow_succ]
  have e3 : (2147483648 : Nat) = 2 ^ k * 2 ^ (32 - (k + 1)) := by rw [← Nat.pow_add, show k + (32 - (k + 1)) = 31 by omega]
  unfold rotr
  rw [e2, Nat.pow_succ]
  generalize hP : (2 : Nat) ^ (32 - (k + 1)) = P at *
  generalize hQ : (2 : Nat) ^ k = Q at *
  have d1 : n / (Q * 2) = n / Q / 2 := by rw [Nat.div_div_eq_div_mul]
  have d2 : n % (Q * 2) = n % Q + Q * (n / Q % 2) := Nat.mod_mul
  rw [d1, d2, e3]
  generalize n % Q = r
  generalize n / Q = q
  have h1 : (q + r * (P * 2)) / 2 = q / 2 + r * P := by rw [← Nat.mul_assoc]; omega
  have h2 : (q + r * (P * 2)) % 2 = q % 2 := by rw [← Nat.mul_assoc]; omega
  rw [h1, h2, Nat.add_mul]
  have h3 : Q * (q % 2) * P = q % 2 * (Q * P) := by rw [Nat.mul_comm Q, Nat.mul_assoc]
  omega
theorem rotr_zero (n : Nat) : rotr n 0 = n := by simp [rotr, Nat.mod_one]
theorem ad_lt (a b : Nat) : ad a b < 4294967296 := Nat.mod_lt _ (by decide)
theorem xor_w {a b : Nat} (ha : a < 4294967296) (hb : b < 4294967296) : a ^^^ b < 4294967296 := Nat.xor_lt_two_pow (n := 32) ha hb
theorem and_w {a b : Nat} (ha : a < 4294967296) : a &&& b < 4294967296 := Nat.lt_of_le_of_lt Nat.and_le_left ha
theorem s0_lt {w : Nat} (h : w < 4294967296) : s0 w < 4294967296 := xor_w (xor_w (rotr_lt h (by decide)) (rotr_lt h (by decide))) (by omega)
theorem s1_lt {w : Nat} (h : w < 4294967296) : s1 w < 4294967296 := xor_w (xor_w (rotr_lt h (by decide)) (rotr_lt h (by decide))) (by omega)
theorem b0_lt {w : Nat} (h : w < 4294967296) : b0 w < 4294967296 := xor_w (xor_w (rotr_lt h (by decide)) (rotr_lt h (by decide))) (rotr_lt h (by decide))
theorem b1_lt {w : Nat} (h : w < 4294967296) : b1 w < 4294967296 := xor_w (xor_w (rotr_lt h (by decide)) (rotr_lt h (by decide))) (rotr_lt h (by decide))
theorem chf_lt {e f g : Nat} (h : e < 4294967296) : chf e f g < 4294967296 := xor_w (and_w h) (and_w (by omega))
theorem maj_lt {a b c : Nat} (h : a < 4294967296) (hb : b < 4294967296) : maj a b c < 4294967296 := xor_w (xor_w (and_w h) (and_w h)) (and_w hb)
theorem be4_lt {l : List Nat} (h : ∀ c ∈ l, c < 256) (i : Nat) : be4 l i < 4294967296 := by
  have h1 := getD_lt h (4 * i)
  have h2 := getD_lt h (4 * i + 1)
  have h3 := getD_lt h (4 * i + 2)
  have h4 := getD_lt h (4 * i + 3)
  unfold be4; omega
theorem nxt_lt {l w : List Nat} (h : ∀ c ∈ l, c < 256) (n : Nat) : nxt l w n < 4294967296 := by
  unfold nxt
  split
  · exact be4_lt h n
  · exact ad_lt _ _
theorem sch_len (l : List Nat) (n : Nat) : (sch l n).length = n := by
  induction n with
  | zero => rfl
  | succ n ih => simp [sch, ih]
theorem sch_lt {l : List Nat} (h : ∀ c ∈ l, c < 256) (n : Nat) : ∀ c ∈ sch l n, c < 4294967296 := by
  induction n with
  | zero => intro c hc; cases hc
  | succ n ih =>
    intro c hc
    rcases List.mem_append.1 hc with hc | hc
    · exact ih c hc
    · rw [List.mem_singleton.1 hc]; exact nxt_lt h n
/-- a round -/
def rnd (k w : Nat) (v : List Nat) : List Nat :=
  let t := ad (ad (ad (ad (v.getD 7 0) (b1 (v.getD 4 0))) (chf (v.getD 4 0) (v.getD 5 0) (v.getD 6 0))) k) w
  let u := ad (b0 (v.getD 0 0)) (maj (v.getD 0 0) (v.getD 1 0) (v.getD 2 0))
  [ad t u, v.getD 0 0, v.getD 1 0, v.getD 2 0, ad (v.getD 3 0) t, v.getD 4 0, v.getD 5 0, v.getD 6 0]
/-- the rounds' constants -/
def kc : List Nat := [0x428a2f98, 0x71374491, 0xb5c0fbcf, 0xe9b5dba5, 0x3956c25b, 0x59f111f1, 0x923f82a4, 0xab1c5ed5, 0xd807aa98, 0x12835b01, 0x243185be, 0x550c7dc3, 0x72be5d74, 0x80deb1fe, 0x9bdc06a7, 0xc19bf174, 0xe49b69c1, 0xefbe4786, 0x0fc19dc6, 0x240ca1cc, 0x2de92c6f, 0x4a7484aa, 0x5cb0a9dc, 0x76f988da, 0x983e5152, 0xa831c66d, 0xb00327c8, 0xbf597fc7, 0xc6e00bf3, 0xd5a79147, 0x06ca6351, 0x14292967, 0x27b70a85, 0x2e1b2138, 0x4d2c6dfc, 0x53380d13, 0x650a7354, 0x766a0abb, 0x81c2c92e, 0x92722c85, 0xa2bfe8a1, 0xa81a664b, 0xc24b8b70, 0xc76c51a3, 0xd192e819, 0xd6990624, 0xf40e3585, 0x106aa070, 0x19a4c116, 0x1e376c08, 0x2748774c, 0x34b0bcb5, 0x391c0cb3, 0x4ed8aa4a, 0x5b9cca4f, 0x682e6ff3, 0x748f82ee, 0x78a5636f, 0x84c87814, 0x8cc70208, 0x90befffa, 0xa4506ceb, 0xbef9a3f7, 0xc67178f2]
def rds (l h : List Nat) : Nat → List Nat
  | 0 => h
  | n + 1 => rnd (kc.getD n 0) ((sch l 64).getD n 0) (rds l h n)
def blk (l h : List Nat) : List Nat := (List.range 8).map fun i => ad (h.getD i 0) ((rds l h 64).getD i 0)
def h0 : List Nat := [0x6a09e667, 0xbb67ae85, 0x3c6ef372, 0xa54ff53a, 0x510e527f, 0x9b05688c, 0x1f83d9ab, 0x5be0cd19]
/-- a number in w bytes, the highest first -/
def high (n : Nat) : Nat → List Nat
  | 0 => []
  | w + 1 => high (n / 256) w ++ [n % 256]
def zs (n : Nat) : Nat := (119 - n % 64) % 64
def pad (m : List Nat) : List Nat := m ++ [128] ++ List.replicate (zs m.length) 0 ++ high (8 * m.length) 8
def fld (m : List Nat) : Nat → List Nat
  | 0 => h0
  | n + 1 => blk ((m.drop (64 * n)).take 64) (fld m n)
def sha (m : List Nat) : List Nat := (fld (pad m) ((pad m).length / 64)).flatMap fun w => high w 4
theorem high_len (n w : Nat) : (high n w).length = w := by
  induction w generalizing n with
  | zero => rfl
  | succ w ih => simp [high, ih]
theorem high_lt (n w : Nat) : ∀ c ∈ high n w, c < 256 := by
  induction w generalizing n with
  | zero => intro c hc; cases hc
  | succ w ih =>
    intro c hc
    rcases List.mem_append.1 hc with hc | hc
    · exact ih _ c hc
    · rw [List.mem_singleton.1 hc]; exact Nat.mod_lt _ (by decide)
theorem pad_len (m : List Nat) : (pad m).length = m.length + 9 + zs m.length := by simp [pad, high_len]; omega
theorem pad_64 (m : List Nat) : (pad m).length % 64 = 0 := by rw [pad_len]; unfold zs; omega
theorem rds_len {l h : List Nat} (hh : h.length = 8) (n : Nat) : (rds l h n).length = 8 := by
  cases n with
  | zero => exact hh
  | succ n => rfl
theorem blk_len (l h : List Nat) : (blk l h).length = 8 := by simp [blk]
theorem fld_len (m : List Nat) (n : Nat) : (fld m n).length = 8 := by
  cases n with
  | zero => rfl
  | succ n => exact blk_len _ _
theorem blk_lt (l h : List Nat) : ∀ c ∈ blk l h, c < 4294967296 := by
  intro c hc
  obtain ⟨i, _, rfl⟩ := List.mem_map.1 hc
  exact ad_lt _ _
theorem h0_lt : ∀ c ∈ h0, c < 4294967296 := by decide
theorem fld_lt (m : List Nat) (n : Nat) : ∀ c ∈ fld m n, c < 4294967296 := by
  cases n with
  | zero => exact h0_lt
  | succ n => exact blk_lt _ _
end Go.Proofs.YtbgnjjbmidkhlaaDoor
/- The fingerprint of "abc". -/
namespace Go.Proofs.YtbgnjjbmidkhlaaDoor
set_option linter.unusedVariables false
set_option linter.unusedSimpArgs false
set_option linter.unusedVariables false
theorem sch_of (l w : List Nat) (hw : w.length = 64) (h : ∀ n, n < 64 → w.getD n 0 = nxt l (w.take n) n) : sch l 64 = w := by
  have key : ∀ n, n ≤ 64 → sch l n = w.take n := by
    intro n
    induction n with
    | zero => intro _; simp [sch]
    | succ n ih =>
      intro hn
      have hlt : n < w.length := by omega
      rw [sch, ih (by omega), ← h n (by omega), List.take_succ_eq_append_getElem hlt, List.getD_eq_getElem?_getD, List.getElem?_eq_getElem hlt]
      rfl
  rw [key 64 (Nat.le_refl _), List.take_of_length_le (by omega)]
theorem rds_of (l w h : List Nat) (ss : List (List Nat)) (hw : sch l 64 = w) (h0 : ss.getD 0 [] = h) (hs : ∀ n, n < 64 → ss.getD (n + 1) [] = rnd (kc.getD n 0) (w.getD n 0) (ss.getD n [])) : ∀ n, n ≤ 64 → rds l h n = ss.getD n [] := by
  intro n
  induction n with
  | zero => intro _; exact h0.symm
  | succ n ih => intro hn; rw [rds, ih (by omega), hw, hs n (by omega)]
def abcB : List Nat := [97, 98, 99, 128, 0, 0, 0, 0, 0, 0, 0, 0, 0, 0, 0, 0, 0, 0, 0, 0, 0, 0, 0, 0, 0, 0, 0, 0, 0, 0, 0, 0, 0, 0, 0, 0, 0, 0, 0, 0, 0, 0, 0, 0, 0, 0, 0, 0, 0, 0, 0, 0, 0, 0, 0, 0, 0, 0, 0, 0, 0, 0, 0, 24]
def abcW : List Nat := [1633837952, 0, 0, 0, 0, 0, 0, 0, 0, 0, 0, 0, 0, 0, 0, 24, 1633837952, 983040, 2108187653, 1610613702, 1050508152, 25426944, 316456923, 3806512014, 3357629466, 3073800610, 3854317833, 845560923, 2636160359, 3968280267, 1881225380, 3552024379, 2482346367, 996719219, 2952069057, 4043988066, 176896406, 1924104970, 2483675966, 610538786, 2672279444, 4037431130, 1042573945, 657669027, 206005234, 2215296807, 2049510749, 106709978, 4215179723, 3430291419, 3118885940, 2845390439, 2226839261, 3256115900, 344409900, 2987358873, 4015503821, 3957764664, 2682456414, 2025622859, 2755645205, 1720397816, 4004225740, 313650667]
def abcS : List (List Nat) := [[1779033703, 3144134277, 1013904242, 2773480762, 1359893119, 2600822924, 528734635, 1541459225],
  [1567288269, 1779033703, 3144134277, 1013904242, 4197074466, 1359893119, 2600822924, 528734635],
  [1516951981, 1567288269, 1779033703, 3144134277, 2026797449, 4197074466, 1359893119, 2600822924],
  [3368241063, 1516951981, 1567288269, 1779033703, 4180228587, 2026797449, 4197074466, 1359893119],
  [3578852966, 3368241063, 1516951981, 1567288269, 618661968, 4180228587, 2026797449, 4197074466],
  [71342698, 3578852966, 3368241063, 1516951981, 1135452741, 618661968, 4180228587, 2026797449],
  [725748213, 71342698, 3578852966, 3368241063, 1900175533, 1135452741, 618661968, 4180228587],
  [3842179968, 725748213, 71342698, 3578852966, 2603066369, 1900175533, 1135452741, 618661968],
  [2241887071, 3842179968, 725748213, 71342698, 207977081, 2603066369, 1900175533, 1135452741],
  [2382687417, 2241887071, 3842179968, 725748213, 852110732, 207977081, 2603066369, 1900175533],
  [2357671019, 2382687417, 2241887071, 3842179968, 482944406, 852110732, 207977081, 2603066369],
  [1201185780, 2357671019, 2382687417, 2241887071, 1131095016, 482944406, 852110732, 207977081],
  [4146054569, 1201185780, 2357671019, 2382687417, 2171590377, 1131095016, 482944406, 852110732],
  [2274437520, 4146054569, 1201185780, 2357671019, 509051416, 2171590377, 1131095016, 482944406],
  [3643992854, 2274437520, 4146054569, 1201185780, 1952073950, 509051416, 2171590377, 1131095016],
  [3227803614, 3643992854, 2274437520, 4146054569, 194179596, 1952073950, 509051416, 2171590377],
  [2969183118, 3227803614, 3643992854, 2274437520, 123276749, 194179596, 1952073950, 509051416],
  [567974555, 2969183118, 3227803614, 3643992854, 2150900380, 123276749, 194179596, 1952073950],
  [3271285201, 567974555, 2969183118, 3227803614, 2221859924, 2150900380, 123276749, 194179596],
  [4269243327, 3271285201, 567974555, 2969183118, 3431569761, 2221859924, 2150900380, 123276749],
  [3790736435, 4269243327, 3271285201, 567974555, 2959311225, 3431569761, 2221859924, 2150900380],
  [2647034723, 3790736435, 4269243327, 3271285201, 2329577776, 2959311225, 3431569761, 2221859924],
  [3261099373, 2647034723, 3790736435, 4269243327, 3777329520, 2329577776, 2959311225, 3431569761],
  [2812502591, 3261099373, 2647034723, 3790736435, 1240797514, 3777329520, 2329577776, 2959311225],
  [3319086477, 2812502591, 3261099373, 2647034723, 2856829767, 1240797514, 3777329520, 2329577776],
  [472655928, 3319086477, 2812502591, 3261099373, 673443729, 2856829767, 1240797514, 3777329520],
  [3454534525, 472655928, 3319086477, 2812502591, 339230094, 673443729, 2856829767, 1240797514],
  [3056518332, 3454534525, 472655928, 3319086477, 3343672598, 339230094, 673443729, 2856829767],
  [2010346792, 3056518332, 3454534525, 472655928, 3992961016, 3343672598, 339230094, 673443729],
  [909411017, 2010346792, 3056518332, 3454534525, 1628611511, 3992961016, 3343672598, 339230094],
  [2684750640, 909411017, 2010346792, 3056518332, 2917635127, 1628611511, 3992961016, 3343672598],
  [3935906338, 2684750640, 909411017, 2010346792, 17410874, 2917635127, 1628611511, 3992961016],
  [1941126133, 3935906338, 2684750640, 909411017, 3126399250, 17410874, 2917635127, 1628611511],
  [2564891911, 1941126133, 3935906338, 2684750640, 2631529974, 3126399250, 17410874, 2917635127],
  [4267724277, 2564891911, 1941126133, 3935906338, 1495571923, 2631529974, 3126399250, 17410874],
  [2846323596, 4267724277, 2564891911, 1941126133, 140458035, 1495571923, 2631529974, 3126399250],
  [1705037796, 2846323596, 4267724277, 2564891911, 4105175766, 140458035, 1495571923, 2631529974],
  [1101421745, 1705037796, 2846323596, 4267724277, 124953195, 4105175766, 140458035, 1495571923],
  [887035396, 1101421745, 1705037796, 2846323596, 2768741693, 124953195, 4105175766, 140458035],
  [1841658506, 887035396, 1101421745, 1705037796, 4034403272, 2768741693, 124953195, 4105175766],
  [2045405306, 1841658506, 887035396, 1101421745, 519815328, 4034403272, 2768741693, 124953195],
  [3597076326, 2045405306, 1841658506, 887035396, 641019235, 519815328, 4034403272, 2768741693],
  [3745932591, 3597076326, 2045405306, 1841658506, 2206934801, 641019235, 519815328, 4034403272],
  [397020670, 3745932591, 3597076326, 2045405306, 3737995029, 2206934801, 641019235, 519815328],
  [2638983059, 397020670, 3745932591, 3597076326, 4255271982, 3737995029, 2206934801, 641019235],
  [643991573, 2638983059, 397020670, 3745932591, 2819559920, 4255271982, 3737995029, 2206934801],
  [1923828625, 643991573, 2638983059, 397020670, 3077922209, 2819559920, 4255271982, 3737995029],
  [2706117808, 1923828625, 643991573, 2638983059, 3581645993, 3077922209, 2819559920, 4255271982],
  [1098003085, 2706117808, 1923828625, 643991573, 4274981830, 3581645993, 3077922209, 2819559920],
  [91585771, 1098003085, 2706117808, 1923828625, 3178315832, 4274981830, 3581645993, 3077922209],
  [4045142696, 91585771, 1098003085, 2706117808, 1851537676, 3178315832, 4274981830, 3581645993],
  [2047150241, 4045142696, 91585771, 1098003085, 1391578359, 1851537676, 3178315832, 4274981830],
  [2288941602, 2047150241, 4045142696, 91585771, 1227037726, 1391578359, 1851537676, 3178315832],
  [270520975, 2288941602, 2047150241, 4045142696, 1386118400, 1227037726, 1391578359, 1851537676],
  [4117770203, 270520975, 2288941602, 2047150241, 2672265155, 1386118400, 1227037726, 1391578359],
  [1053056219, 4117770203, 270520975, 2288941602, 3842906959, 2672265155, 1386118400, 1227037726],
  [952932627, 1053056219, 4117770203, 270520975, 1422599787, 3842906959, 2672265155, 1386118400],
  [4241590395, 952932627, 1053056219, 4117770203, 2606665836, 1422599787, 3842906959, 2672265155],
  [3227702383, 4241590395, 952932627, 1053056219, 2118385806, 2606665836, 1422599787, 3842906959],
  [4290184306, 3227702383, 4241590395, 952932627, 1837350854, 2118385806, 2606665836, 1422599787],
  [3064893439, 4290184306, 3227702383, 4241590395, 2988158269, 1837350854, 2118385806, 2606665836],
  [3093179625, 3064893439, 4290184306, 3227702383, 2518632596, 2988158269, 1837350854, 2118385806],
  [80891244, 3093179625, 3064893439, 4290184306, 2492278198, 2518632596, 2988158269, 1837350854],
  [3550093669, 80891244, 3093179625, 3064893439, 4212265488, 2492278198, 2518632596, 2988158269],
  [1349398616, 3550093669, 80891244, 3093179625, 1593118500, 4212265488, 2492278198, 2518632596]]
set_option maxRecDepth 100000 in
theorem abc_pad : pad [97, 98, 99] = abcB := by decide +kernel
set_option maxRecDepth 100000 in
theorem abc_sch : sch abcB 64 = abcW := sch_of _ _ (by decide +kernel) (by decide +kernel)
set_option maxRecDepth 100000 in
theorem abc_rds : rds abcB h0 64 = abcS.getD 64 [] := rds_of _ _ _ _ abc_sch (by decide +kernel) (by decide +kernel) 64 (Nat.le_refl _)
def abcF : List Nat := [186, 120, 22, 191, 143, 1, 207, 234, 65, 65, 64, 222, 93, 174, 34, 35, 176, 3, 97, 163, 150, 23, 122, 156, 180, 16, 255, 97, 242, 0, 21, 173]
set_option maxRecDepth 100000 in
theorem sha_abc : sha [97, 98, 99] = abcF := by
  unfold sha
  rw [abc_pad, show abcB.length / 64 = 1 by decide +kernel]
  show (blk ((abcB.drop 0).take 64) h0).flatMap _ = _
  rw [show (abcB.drop 0).take 64 = abcB by decide +kernel]
  unfold blk
  rw [abc_rds]
  decide +kernel
end Go.Proofs.YtbgnjjbmidkhlaaDoor
/- The document's example of a code by a key. -/
namespace Go.Proofs.YtbgnjjbmidkhlaaDoor
set_option linter.unusedVariables false
set_option linter.unusedSimpArgs false
set_option linter.unusedVariables false
def foxIM : List Nat := [93, 83, 79, 54, 54, 54, 54, 54, 54, 54, 54, 54, 54, 54, 54, 54, 54, 54, 54, 54, 54, 54, 54, 54, 54, 54, 54, 54, 54, 54, 54, 54, 54, 54, 54, 54, 54, 54, 54, 54, 54, 54, 54, 54, 54, 54, 54, 54, 54, 54, 54, 54, 54, 54, 54, 54, 54, 54, 54, 54, 54, 54, 54, 54, 84, 104, 101, 32, 113, 117, 105, 99, 107, 32, 98, 114, 111, 119, 110, 32, 102, 111, 120, 32, 106, 117, 109, 112, 115, 32, 111, 118, 101, 114, 32, 116, 104, 101, 32, 108, 97, 122, 121, 32, 100, 111, 103]
def foxIP : List Nat := [93, 83, 79, 54, 54, 54, 54, 54, 54, 54, 54, 54, 54, 54, 54, 54, 54, 54, 54, 54, 54, 54, 54, 54, 54, 54, 54, 54, 54, 54, 54, 54, 54, 54, 54, 54, 54, 54, 54, 54, 54, 54, 54, 54, 54, 54, 54, 54, 54, 54, 54, 54, 54, 54, 54, 54, 54, 54, 54, 54, 54, 54, 54, 54, 84, 104, 101, 32, 113, 117, 105, 99, 107, 32, 98, 114, 111, 119, 110, 32, 102, 111, 120, 32, 106, 117, 109, 112, 115, 32, 111, 118, 101, 114, 32, 116, 104, 101, 32, 108, 97, 122, 121, 32, 100, 111, 103, 128, 0, 0, 0, 0, 0, 0, 0, 0, 0, 0, 0, 0, 0, 0, 0, 0, 0, 0, 3, 88]
set_option maxRecDepth 100000 in
theorem foxI_pad : pad foxIM = foxIP := by decide +kernel
def foxIB0 : List Nat := [93, 83, 79, 54, 54, 54, 54, 54, 54, 54, 54, 54, 54, 54, 54, 54, 54, 54, 54, 54, 54, 54, 54, 54, 54, 54, 54, 54, 54, 54, 54, 54, 54, 54, 54, 54, 54, 54, 54, 54, 54, 54, 54, 54, 54, 54, 54, 54, 54, 54, 54, 54, 54, 54, 54, 54, 54, 54, 54, 54, 54, 54, 54, 54]
def foxIW0 : List Nat := [1565740854, 909522486, 909522486, 909522486, 909522486, 909522486, 909522486, 909522486, 909522486, 909522486, 909522486, 909522486, 909522486, 909522486, 909522486, 909522486, 1484848355, 828629987, 3046079234, 3776264696, 2791310139, 2408496505, 1432802191, 4279136217, 40131307, 3440696412, 2761625533, 3109296823, 2464963315, 15183730, 3262041459, 1301009130, 494097387, 911498773, 3591502981, 2081777627, 3068146072, 300753484, 4189014784, 316684472, 482755238, 1789643473, 2292660537, 4028708497, 808784977, 80985466, 663664670, 349427506, 1313325631, 3200613697, 3221973858, 3913925113, 1731109990, 3732668420, 293673707, 3227921096, 3874275074, 2802869092, 2861148269, 1991861016, 193996981, 1258338248, 2361588754, 3500943187]
def foxIS0 : List (List Nat) := [[1779033703, 3144134277, 1013904242, 2773480762, 1359893119, 2600822924, 528734635, 1541459225],
  [1499191171, 1779033703, 3144134277, 1013904242, 4128977368, 1359893119, 2600822924, 528734635],
  [4122741130, 1499191171, 1779033703, 3144134277, 2982994970, 4128977368, 1359893119, 2600822924],
  [19013689, 4122741130, 1499191171, 1779033703, 1112638183, 2982994970, 4128977368, 1359893119],
  [681573300, 19013689, 4122741130, 1499191171, 2020572021, 1112638183, 2982994970, 4128977368],
  [2122534910, 681573300, 19013689, 4122741130, 230200089, 2020572021, 1112638183, 2982994970],
  [2108449771, 2122534910, 681573300, 19013689, 1568154522, 230200089, 2020572021, 1112638183],
  [3431259727, 2108449771, 2122534910, 681573300, 3747101211, 1568154522, 230200089, 2020572021],
  [3330340368, 3431259727, 2108449771, 2122534910, 1618359630, 3747101211, 1568154522, 230200089],
  [1948866696, 3330340368, 3431259727, 2108449771, 2737399714, 1618359630, 3747101211, 1568154522],
  [1304017039, 1948866696, 3330340368, 3431259727, 2327406522, 2737399714, 1618359630, 3747101211],
  [2492994892, 1304017039, 1948866696, 3330340368, 712817723, 2327406522, 2737399714, 1618359630],
  [274046528, 2492994892, 1304017039, 1948866696, 2466637827, 712817723, 2327406522, 2737399714],
  [2561385380, 274046528, 2492994892, 1304017039, 1473149539, 2466637827, 712817723, 2327406522],
  [3374744752, 2561385380, 274046528, 2492994892, 4039501349, 1473149539, 2466637827, 712817723],
  [2816881395, 3374744752, 2561385380, 274046528, 377067107, 4039501349, 1473149539, 2466637827],
  [3387307632, 2816881395, 3374744752, 2561385380, 1776661742, 377067107, 4039501349, 1473149539],
  [3741961525, 3387307632, 2816881395, 3374744752, 2494117983, 1776661742, 377067107, 4039501349],
  [1062500600, 3741961525, 3387307632, 2816881395, 4282149560, 2494117983, 1776661742, 377067107],
  [348534449, 1062500600, 3741961525, 3387307632, 1131473108, 4282149560, 2494117983, 1776661742],
  [1113275755, 348534449, 1062500600, 3741961525, 77137756, 1131473108, 4282149560, 2494117983],
  [2831669183, 1113275755, 348534449, 1062500600, 440530801, 77137756, 1131473108, 4282149560],
  [1853634890, 2831669183, 1113275755, 348534449, 1685531925, 440530801, 77137756, 1131473108],
  [3464886256, 1853634890, 2831669183, 1113275755, 3619921196, 1685531925, 440530801, 77137756],
  [1219400371, 3464886256, 1853634890, 2831669183, 4918587, 3619921196, 1685531925, 440530801],
  [3572198043, 1219400371, 3464886256, 1853634890, 822829422, 4918587, 3619921196, 1685531925],
  [2319068762, 3572198043, 1219400371, 3464886256, 532177475, 822829422, 4918587, 3619921196],
  [3613873215, 2319068762, 3572198043, 1219400371, 2757718309, 532177475, 822829422, 4918587],
  [3415305343, 3613873215, 2319068762, 3572198043, 1952251823, 2757718309, 532177475, 822829422],
  [3237203661, 3415305343, 3613873215, 2319068762, 4127183919, 1952251823, 2757718309, 532177475],
  [3183804200, 3237203661, 3415305343, 3613873215, 3131186645, 4127183919, 1952251823, 2757718309],
  [2944741512, 3183804200, 3237203661, 3415305343, 4149355328, 3131186645, 4127183919, 1952251823],
  [3032474974, 2944741512, 3183804200, 3237203661, 388317344, 4149355328, 3131186645, 4127183919],
  [931106071, 3032474974, 2944741512, 3183804200, 3265151074, 388317344, 4149355328, 3131186645],
  [836355436, 931106071, 3032474974, 2944741512, 3700235026, 3265151074, 388317344, 4149355328],
  [3286437812, 836355436, 931106071, 3032474974, 4251331468, 3700235026, 3265151074, 388317344],
  [2884276275, 3286437812, 836355436, 931106071, 1800329315, 4251331468, 3700235026, 3265151074],
  [1745817240, 2884276275, 3286437812, 836355436, 981196932, 1800329315, 4251331468, 3700235026],
  [3501713202, 1745817240, 2884276275, 3286437812, 3282811760, 981196932, 1800329315, 4251331468],
  [1458225435, 3501713202, 1745817240, 2884276275, 3757478764, 3282811760, 981196932, 1800329315],
  [3775854037, 1458225435, 3501713202, 1745817240, 3320140963, 3757478764, 3282811760, 981196932],
  [1772160750, 3775854037, 1458225435, 3501713202, 331697645, 3320140963, 3757478764, 3282811760],
  [442554680, 1772160750, 3775854037, 1458225435, 1617773942, 331697645, 3320140963, 3757478764],
  [2818215076, 442554680, 1772160750, 3775854037, 1233679010, 1617773942, 331697645, 3320140963],
  [3152021300, 2818215076, 442554680, 1772160750, 3391447547, 1233679010, 1617773942, 331697645],
  [2480436513, 3152021300, 2818215076, 442554680, 2857886393, 3391447547, 1233679010, 1617773942],
  [33214042, 2480436513, 3152021300, 2818215076, 3157630122, 2857886393, 3391447547, 1233679010],
  [573858644, 33214042, 2480436513, 3152021300, 480171137, 3157630122, 2857886393, 3391447547],
  [1351547305, 573858644, 33214042, 2480436513, 1154826127, 480171137, 3157630122, 2857886393],
  [413896545, 1351547305, 573858644, 33214042, 154499531, 1154826127, 480171137, 3157630122],
  [3784960145, 413896545, 1351547305, 573858644, 1069951140, 154499531, 1154826127, 480171137],
  [1615578176, 3784960145, 413896545, 1351547305, 3601403014, 1069951140, 154499531, 1154826127],
  [3606522258, 1615578176, 3784960145, 413896545, 2985911339, 3601403014, 1069951140, 154499531],
  [630990308, 3606522258, 1615578176, 3784960145, 937334319, 2985911339, 3601403014, 1069951140],
  [2973192316, 630990308, 3606522258, 1615578176, 3609222719, 937334319, 2985911339, 3601403014],
  [1288336348, 2973192316, 630990308, 3606522258, 2222286535, 3609222719, 937334319, 2985911339],
  [1481182109, 1288336348, 2973192316, 630990308, 1703032732, 2222286535, 3609222719, 937334319],
  [4087285530, 1481182109, 1288336348, 2973192316, 2451104596, 1703032732, 2222286535, 3609222719],
  [2162037261, 4087285530, 1481182109, 1288336348, 3776849917, 2451104596, 1703032732, 2222286535],
  [410916820, 2162037261, 4087285530, 1481182109, 206951459, 3776849917, 2451104596, 1703032732],
  [4019699229, 410916820, 2162037261, 4087285530, 1981979706, 206951459, 3776849917, 2451104596],
  [2452492707, 4019699229, 410916820, 2162037261, 654056988, 1981979706, 206951459, 3776849917],
  [934346168, 2452492707, 4019699229, 410916820, 1283415264, 654056988, 1981979706, 206951459],
  [2360816372, 934346168, 2452492707, 4019699229, 3382913752, 1283415264, 654056988, 1981979706],
  [1684200147, 2360816372, 934346168, 2452492707, 1426189322, 3382913752, 1283415264, 654056988]]
set_option maxRecDepth 100000 in
theorem foxI_sch0 : sch foxIB0 64 = foxIW0 := sch_of _ _ (by decide +kernel) (by decide +kernel)
set_option maxRecDepth 100000 in
theorem foxI_rds0 : rds foxIB0 h0 64 = foxIS0.getD 64 [] := rds_of _ _ _ _ foxI_sch0 (by decide +kernel) (by decide +kernel) 64 (Nat.le_refl _)
set_option maxRecDepth 100000 in
theorem foxI_fld0 : fld foxIP 1 = [3463233850, 1209983353, 1948250410, 931006173, 2786082441, 1688769380, 1812149899, 2195516213] := by
  rw [show fld foxIP 1 = blk ((foxIP.drop (64 * 0)).take 64) (fld foxIP 0) from rfl, show fld foxIP 0 = h0 from rfl, show (foxIP.drop (64 * 0)).take 64 = foxIB0 by decide +kernel]
  unfold blk
  rw [foxI_rds0]
  decide +kernel
def foxIB1 : List Nat := [84, 104, 101, 32, 113, 117, 105, 99, 107, 32, 98, 114, 111, 119, 110, 32, 102, 111, 120, 32, 106, 117, 109, 112, 115, 32, 111, 118, 101, 114, 32, 116, 104, 101, 32, 108, 97, 122, 121, 32, 100, 111, 103, 128, 0, 0, 0, 0, 0, 0, 0, 0, 0, 0, 0, 0, 0, 0, 0, 0, 0, 0, 3, 88]
def foxIW1 : List Nat := [1416127776, 1903520099, 1797284466, 1870097952, 1718581280, 1786080624, 1931505526, 1701978228, 1751457900, 1635416352, 1685022592, 0, 0, 0, 0, 856, 1215789539, 3369772837, 1438141474, 147128942, 1286988929, 2236494754, 777899669, 724914221, 1652101295, 2398219790, 395259173, 396037982, 4169268895, 345964178, 2628613065, 352212796, 3932672556, 519796785, 508523907, 1183815677, 2400673158, 3074333110, 2481456119, 3422383585, 4199991306, 1280787848, 2556776200, 1348430178, 1461863882, 3731819580, 3261972228, 655793655, 1593858064, 759378383, 2909831118, 1747216474, 2074102933, 814742857, 1817559613, 3837537694, 1229741528, 3742076030, 3133341155, 2462041720, 1251173789, 3836026743, 3546991780, 3660136386]
def foxIS1 : List (List Nat) := [[3463233850, 1209983353, 1948250410, 931006173, 2786082441, 1688769380, 1812149899, 2195516213],
  [3673088360, 3463233850, 1209983353, 1948250410, 3171180282, 2786082441, 1688769380, 1812149899],
  [1003290231, 3673088360, 3463233850, 1209983353, 1594180067, 3171180282, 2786082441, 1688769380],
  [1609929502, 1003290231, 3673088360, 3463233850, 3195295240, 1594180067, 3171180282, 2786082441],
  [758628959, 1609929502, 1003290231, 3673088360, 3329469959, 3195295240, 1594180067, 3171180282],
  [690527359, 758628959, 1609929502, 1003290231, 3177432555, 3329469959, 3195295240, 1594180067],
  [87839574, 690527359, 758628959, 1609929502, 2282826863, 3177432555, 3329469959, 3195295240],
  [3849221983, 87839574, 690527359, 758628959, 762630907, 2282826863, 3177432555, 3329469959],
  [2557760402, 3849221983, 87839574, 690527359, 2785408353, 762630907, 2282826863, 3177432555],
  [3279929747, 2557760402, 3849221983, 87839574, 2070179221, 2785408353, 762630907, 2282826863],
  [1012803499, 3279929747, 2557760402, 3849221983, 2094301911, 2070179221, 2785408353, 762630907],
  [1091036304, 1012803499, 3279929747, 2557760402, 52908146, 2094301911, 2070179221, 2785408353],
  [904722263, 1091036304, 1012803499, 3279929747, 1638905143, 52908146, 2094301911, 2070179221],
  [2981667973, 904722263, 1091036304, 1012803499, 2076815392, 1638905143, 52908146, 2094301911],
  [2635729865, 2981667973, 904722263, 1091036304, 4244217021, 2076815392, 1638905143, 52908146],
  [1009984533, 2635729865, 2981667973, 904722263, 1985811594, 4244217021, 2076815392, 1638905143],
  [2545089127, 1009984533, 2635729865, 2981667973, 1831882957, 1985811594, 4244217021, 2076815392],
  [3964860944, 2545089127, 1009984533, 2635729865, 60806912, 1831882957, 1985811594, 4244217021],
  [3078029904, 3964860944, 2545089127, 1009984533, 4158813282, 60806912, 1831882957, 1985811594],
  [2028522532, 3078029904, 3964860944, 2545089127, 441957368, 4158813282, 60806912, 1831882957],
  [991985976, 2028522532, 3078029904, 3964860944, 4197927907, 441957368, 4158813282, 60806912],
  [1186343905, 991985976, 2028522532, 3078029904, 1922796571, 4197927907, 441957368, 4158813282],
  [906452220, 1186343905, 991985976, 2028522532, 2631244761, 1922796571, 4197927907, 441957368],
  [3168845451, 906452220, 1186343905, 991985976, 143648986, 2631244761, 1922796571, 4197927907],
  [467212890, 3168845451, 906452220, 1186343905, 2259908181, 143648986, 2631244761, 1922796571],
  [3124566131, 467212890, 3168845451, 906452220, 2447521097, 2259908181, 143648986, 2631244761],
  [1870975225, 3124566131, 467212890, 3168845451, 287292030, 2447521097, 2259908181, 143648986],
  [2871450183, 1870975225, 3124566131, 467212890, 1560335025, 287292030, 2447521097, 2259908181],
  [1367638638, 2871450183, 1870975225, 3124566131, 513463114, 1560335025, 287292030, 2447521097],
  [2067349391, 1367638638, 2871450183, 1870975225, 886534042, 513463114, 1560335025, 287292030],
  [2324393440, 2067349391, 1367638638, 2871450183, 3097491652, 886534042, 513463114, 1560335025],
  [942891148, 2324393440, 2067349391, 1367638638, 666893788, 3097491652, 886534042, 513463114],
  [2410793906, 942891148, 2324393440, 2067349391, 3742086972, 666893788, 3097491652, 886534042],
  [3286026984, 2410793906, 942891148, 2324393440, 2064374651, 3742086972, 666893788, 3097491652],
  [221353871, 3286026984, 2410793906, 942891148, 4151356276, 2064374651, 3742086972, 666893788],
  [1551504283, 221353871, 3286026984, 2410793906, 1267824674, 4151356276, 2064374651, 3742086972],
  [583781505, 1551504283, 221353871, 3286026984, 3246062177, 1267824674, 4151356276, 2064374651],
  [1820627807, 583781505, 1551504283, 221353871, 542893255, 3246062177, 1267824674, 4151356276],
  [3672973473, 1820627807, 583781505, 1551504283, 666691412, 542893255, 3246062177, 1267824674],
  [3624241257, 3672973473, 1820627807, 583781505, 41616217, 666691412, 542893255, 3246062177],
  [1891570248, 3624241257, 3672973473, 1820627807, 2543278346, 41616217, 666691412, 542893255],
  [3944794275, 1891570248, 3624241257, 3672973473, 215153393, 2543278346, 41616217, 666691412],
  [1265959500, 3944794275, 1891570248, 3624241257, 4047943170, 215153393, 2543278346, 41616217],
  [212547757, 1265959500, 3944794275, 1891570248, 2764412088, 4047943170, 215153393, 2543278346],
  [3838381295, 212547757, 1265959500, 3944794275, 3754358602, 2764412088, 4047943170, 215153393],
  [51635989, 3838381295, 212547757, 1265959500, 3872181227, 3754358602, 2764412088, 4047943170],
  [1578279172, 51635989, 3838381295, 212547757, 1829486925, 3872181227, 3754358602, 2764412088],
  [2268960776, 1578279172, 51635989, 3838381295, 4172472836, 1829486925, 3872181227, 3754358602],
  [2929917502, 2268960776, 1578279172, 51635989, 1953295415, 4172472836, 1829486925, 3872181227],
  [2780222498, 2929917502, 2268960776, 1578279172, 1223873289, 1953295415, 4172472836, 1829486925],
  [1630109485, 2780222498, 2929917502, 2268960776, 1146958303, 1223873289, 1953295415, 4172472836],
  [1354672188, 1630109485, 2780222498, 2929917502, 763059986, 1146958303, 1223873289, 1953295415],
  [2124957766, 1354672188, 1630109485, 2780222498, 471755680, 763059986, 1146958303, 1223873289],
  [850532594, 2124957766, 1354672188, 1630109485, 3943138879, 471755680, 763059986, 1146958303],
  [2179955083, 850532594, 2124957766, 1354672188, 3976205532, 3943138879, 471755680, 763059986],
  [454852833, 2179955083, 850532594, 2124957766, 2809057597, 3976205532, 3943138879, 471755680],
  [64388399, 454852833, 2179955083, 850532594, 989081570, 2809057597, 3976205532, 3943138879],
  [324710154, 64388399, 454852833, 2179955083, 3518304346, 989081570, 2809057597, 3976205532],
  [3755826240, 324710154, 64388399, 454852833, 3090419526, 3518304346, 989081570, 2809057597],
  [377357701, 3755826240, 324710154, 64388399, 2101042903, 3090419526, 3518304346, 989081570],
  [3605158950, 377357701, 3755826240, 324710154, 834250125, 2101042903, 3090419526, 3518304346],
  [1962128182, 3605158950, 377357701, 3755826240, 3545320188, 834250125, 2101042903, 3090419526],
  [2752293195, 1962128182, 3605158950, 377357701, 1655987682, 3545320188, 834250125, 2101042903],
  [1501564153, 2752293195, 1962128182, 3605158950, 3911201969, 1655987682, 3545320188, 834250125],
  [2892205344, 1501564153, 2752293195, 1962128182, 3710653811, 3911201969, 1655987682, 3545320188]]
set_option maxRecDepth 100000 in
theorem foxI_sch1 : sch foxIB1 64 = foxIW1 := sch_of _ _ (by decide +kernel) (by decide +kernel)
set_option maxRecDepth 100000 in
theorem foxI_rds1 : rds foxIB1 [3463233850, 1209983353, 1948250410, 931006173, 2786082441, 1688769380, 1812149899, 2195516213] 64 = foxIS1.getD 64 [] := rds_of _ _ _ _ foxI_sch1 (by decide +kernel) (by decide +kernel) 64 (Nat.le_refl _)
set_option maxRecDepth 100000 in
theorem foxI_fld1 : fld foxIP 2 = [2060471898, 2711547506, 405576309, 2893134355, 2201768956, 1305004053, 3468137581, 1445869105] := by
  rw [show fld foxIP 2 = blk ((foxIP.drop (64 * 1)).take 64) (fld foxIP 1) from rfl, show fld foxIP 1 = [3463233850, 1209983353, 1948250410, 931006173, 2786082441, 1688769380, 1812149899, 2195516213] from foxI_fld0, show (foxIP.drop (64 * 1)).take 64 = foxIB1 by decide +kernel]
  unfold blk
  rw [foxI_rds1]
  decide +kernel
set_option maxRecDepth 100000 in
theorem foxI_sha : sha foxIM = [122, 208, 78, 90, 161, 158, 238, 114, 24, 44, 154, 117, 172, 113, 186, 19, 131, 60, 83, 252, 77, 200, 200, 21, 206, 183, 148, 109, 86, 46, 54, 49] := by
  unfold sha
  rw [foxI_pad, show foxIP.length / 64 = 2 by decide +kernel, foxI_fld1]
  decide +kernel
def foxOM : List Nat := [55, 57, 37, 92, 92, 92, 92, 92, 92, 92, 92, 92, 92, 92, 92, 92, 92, 92, 92, 92, 92, 92, 92, 92, 92, 92, 92, 92, 92, 92, 92, 92, 92, 92, 92, 92, 92, 92, 92, 92, 92, 92, 92, 92, 92, 92, 92, 92, 92, 92, 92, 92, 92, 92, 92, 92, 92, 92, 92, 92, 92, 92, 92, 92, 122, 208, 78, 90, 161, 158, 238, 114, 24, 44, 154, 117, 172, 113, 186, 19, 131, 60, 83, 252, 77, 200, 200, 21, 206, 183, 148, 109, 86, 46, 54, 49]
def foxOP : List Nat := [55, 57, 37, 92, 92, 92, 92, 92, 92, 92, 92, 92, 92, 92, 92, 92, 92, 92, 92, 92, 92, 92, 92, 92, 92, 92, 92, 92, 92, 92, 92, 92, 92, 92, 92, 92, 92, 92, 92, 92, 92, 92, 92, 92, 92, 92, 92, 92, 92, 92, 92, 92, 92, 92, 92, 92, 92, 92, 92, 92, 92, 92, 92, 92, 122, 208, 78, 90, 161, 158, 238, 114, 24, 44, 154, 117, 172, 113, 186, 19, 131, 60, 83, 252, 77, 200, 200, 21, 206, 183, 148, 109, 86, 46, 54, 49, 128, 0, 0, 0, 0, 0, 0, 0, 0, 0, 0, 0, 0, 0, 0, 0, 0, 0, 0, 0, 0, 0, 0, 0, 0, 0, 0, 0, 0, 0, 3, 0]
set_option maxRecDepth 100000 in
theorem foxO_pad : pad foxOM = foxOP := by decide +kernel
def foxOB0 : List Nat := [55, 57, 37, 92, 92, 92, 92, 92, 92, 92, 92, 92, 92, 92, 92, 92, 92, 92, 92, 92, 92, 92, 92, 92, 92, 92, 92, 92, 92, 92, 92, 92, 92, 92, 92, 92, 92, 92, 92, 92, 92, 92, 92, 92, 92, 92, 92, 92, 92, 92, 92, 92, 92, 92, 92, 92, 92, 92, 92, 92, 92, 92, 92, 92]
def foxOW0 : List Nat := [926491996, 1549556828, 1549556828, 1549556828, 1549556828, 1549556828, 1549556828, 1549556828, 1549556828, 1549556828, 1549556828, 1549556828, 1549556828, 1549556828, 1549556828, 1549556828, 3714865294, 42962830, 71224041, 2467512273, 419793414, 1427315712, 3508693916, 3414310394, 2073676349, 1580214183, 1876669726, 817288029, 30058875, 2238447637, 3449114864, 1750348975, 1034487982, 1870231200, 1492350634, 2551253359, 1091581649, 2177230372, 3132317206, 1613577344, 4237171436, 3444518892, 3735190717, 1080276738, 825345298, 2577826517, 1725666600, 266232400, 3552217556, 3447915245, 1034235887, 1366263077, 762175820, 141195417, 1526492843, 3893978693, 2423250948, 2852858871, 495248698, 2978091584, 1082942764, 4181982254, 1183382068, 866141841]
def foxOS0 : List (List Nat) := [[1779033703, 3144134277, 1013904242, 2773480762, 1359893119, 2600822924, 528734635, 1541459225],
  [859942313, 1779033703, 3144134277, 1013904242, 3489728510, 1359893119, 2600822924, 528734635],
  [2930173116, 859942313, 1779033703, 3144134277, 2292503519, 3489728510, 1359893119, 2600822924],
  [2512867349, 2930173116, 859942313, 1779033703, 2437864267, 2292503519, 3489728510, 1359893119],
  [3890621218, 2512867349, 2930173116, 859942313, 2710241380, 2437864267, 2292503519, 3489728510],
  [1788725339, 3890621218, 2512867349, 2930173116, 2109134698, 2710241380, 2437864267, 2292503519],
  [1471395499, 1788725339, 3890621218, 2512867349, 792070146, 2109134698, 2710241380, 2437864267],
  [3620446779, 1471395499, 1788725339, 3890621218, 1466845884, 792070146, 2109134698, 2710241380],
  [216842086, 3620446779, 1471395499, 1788725339, 3532820161, 1466845884, 792070146, 2109134698],
  [3931826205, 216842086, 3620446779, 1471395499, 840313278, 3532820161, 1466845884, 792070146],
  [3662616849, 3931826205, 216842086, 3620446779, 291407364, 840313278, 3532820161, 1466845884],
  [1994298821, 3662616849, 3931826205, 216842086, 31599510, 291407364, 840313278, 3532820161],
  [390957674, 1994298821, 3662616849, 3931826205, 2685446749, 31599510, 291407364, 840313278],
  [2128251386, 390957674, 1994298821, 3662616849, 842754091, 2685446749, 31599510, 291407364],
  [4121282186, 2128251386, 390957674, 1994298821, 2664667232, 842754091, 2685446749, 31599510],
  [2848251767, 4121282186, 2128251386, 390957674, 2326852344, 2664667232, 842754091, 2685446749],
  [1583214966, 2848251767, 4121282186, 2128251386, 1966408842, 2326852344, 2664667232, 842754091],
  [183773739, 1583214966, 2848251767, 4121282186, 539526372, 1966408842, 2326852344, 2664667232],
  [2721818518, 183773739, 1583214966, 2848251767, 1237221801, 539526372, 1966408842, 2326852344],
  [2806857633, 2721818518, 183773739, 1583214966, 3421428018, 1237221801, 539526372, 1966408842],
  [4072402596, 2806857633, 2721818518, 183773739, 242990427, 3421428018, 1237221801, 539526372],
  [4126936688, 4072402596, 2806857633, 2721818518, 3095431995, 242990427, 3421428018, 1237221801],
  [3041143194, 4126936688, 4072402596, 2806857633, 2697016037, 3095431995, 242990427, 3421428018],
  [977921380, 3041143194, 4126936688, 4072402596, 4202179523, 2697016037, 3095431995, 242990427],
  [4105035502, 977921380, 3041143194, 4126936688, 804742179, 4202179523, 2697016037, 3095431995],
  [463889265, 4105035502, 977921380, 3041143194, 1613568748, 804742179, 4202179523, 2697016037],
  [1538552569, 463889265, 4105035502, 977921380, 291386286, 1613568748, 804742179, 4202179523],
  [406026946, 1538552569, 463889265, 4105035502, 3857500346, 291386286, 1613568748, 804742179],
  [3853625402, 406026946, 1538552569, 463889265, 548535532, 3857500346, 291386286, 1613568748],
  [1754032879, 3853625402, 406026946, 1538552569, 3966084945, 548535532, 3857500346, 291386286],
  [1394651959, 1754032879, 3853625402, 406026946, 2301614028, 3966084945, 548535532, 3857500346],
  [4039097343, 1394651959, 1754032879, 3853625402, 3616809982, 2301614028, 3966084945, 548535532],
  [3809906926, 4039097343, 1394651959, 1754032879, 2061232233, 3616809982, 2301614028, 3966084945],
  [1137814995, 3809906926, 4039097343, 1394651959, 1396071872, 2061232233, 3616809982, 2301614028],
  [4231015596, 1137814995, 3809906926, 4039097343, 1927277806, 1396071872, 2061232233, 3616809982],
  [2712121124, 4231015596, 1137814995, 3809906926, 343762139, 1927277806, 1396071872, 2061232233],
  [883406464, 2712121124, 4231015596, 1137814995, 1713120600, 343762139, 1927277806, 1396071872],
  [2941324024, 883406464, 2712121124, 4231015596, 378061272, 1713120600, 343762139, 1927277806],
  [1856481895, 2941324024, 883406464, 2712121124, 2364886504, 378061272, 1713120600, 343762139],
  [1642289869, 1856481895, 2941324024, 883406464, 3198704883, 2364886504, 378061272, 1713120600],
  [1566269703, 1642289869, 1856481895, 2941324024, 514269292, 3198704883, 2364886504, 378061272],
  [1677470693, 1566269703, 1642289869, 1856481895, 4068580519, 514269292, 3198704883, 2364886504],
  [3329824423, 1677470693, 1566269703, 1642289869, 3685340338, 4068580519, 514269292, 3198704883],
  [2826023474, 3329824423, 1677470693, 1566269703, 568393696, 3685340338, 4068580519, 514269292],
  [1724933615, 2826023474, 3329824423, 1677470693, 3832589999, 568393696, 3685340338, 4068580519],
  [557067497, 1724933615, 2826023474, 3329824423, 3882258372, 3832589999, 568393696, 3685340338],
  [2839067638, 557067497, 1724933615, 2826023474, 1334445971, 3882258372, 3832589999, 568393696],
  [2530637501, 2839067638, 557067497, 1724933615, 2265136484, 1334445971, 3882258372, 3832589999],
  [1441444868, 2530637501, 2839067638, 557067497, 2449669551, 2265136484, 1334445971, 3882258372],
  [1687650297, 1441444868, 2530637501, 2839067638, 3494437675, 2449669551, 2265136484, 1334445971],
  [276482307, 1687650297, 1441444868, 2530637501, 1774972773, 3494437675, 2449669551, 2265136484],
  [391427990, 276482307, 1687650297, 1441444868, 4061000571, 1774972773, 3494437675, 2449669551],
  [2127543588, 391427990, 276482307, 1687650297, 1420272248, 4061000571, 1774972773, 3494437675],
  [2355969235, 2127543588, 391427990, 276482307, 306280183, 1420272248, 4061000571, 1774972773],
  [2733575230, 2355969235, 2127543588, 391427990, 3819418943, 306280183, 1420272248, 4061000571],
  [1857962993, 2733575230, 2355969235, 2127543588, 1638240341, 3819418943, 306280183, 1420272248],
  [315762001, 1857962993, 2733575230, 2355969235, 629650638, 1638240341, 3819418943, 306280183],
  [2803275156, 315762001, 1857962993, 2733575230, 3923538280, 629650638, 1638240341, 3819418943],
  [2387462239, 2803275156, 315762001, 1857962993, 728760191, 3923538280, 629650638, 1638240341],
  [4078686391, 2387462239, 2803275156, 315762001, 1161105683, 728760191, 3923538280, 629650638],
  [3238967723, 4078686391, 2387462239, 2803275156, 377838374, 1161105683, 728760191, 3923538280],
  [1909965967, 3238967723, 4078686391, 2387462239, 1306753097, 377838374, 1161105683, 728760191],
  [1131932123, 1909965967, 3238967723, 4078686391, 965320497, 1306753097, 377838374, 1161105683],
  [3276016999, 1131932123, 1909965967, 3238967723, 862414799, 965320497, 1306753097, 377838374],
  [3554845911, 3276016999, 1131932123, 1909965967, 3317631551, 862414799, 965320497, 1306753097]]
set_option maxRecDepth 100000 in
theorem foxO_sch0 : sch foxOB0 64 = foxOW0 := sch_of _ _ (by decide +kernel) (by decide +kernel)
set_option maxRecDepth 100000 in
theorem foxO_rds0 : rds foxOB0 h0 64 = foxOS0.getD 64 [] := rds_of _ _ _ _ foxO_sch0 (by decide +kernel) (by decide +kernel) 64 (Nat.le_refl _)
set_option maxRecDepth 100000 in
theorem foxO_fld0 : fld foxOP 1 = [1038912318, 2125183980, 2145836365, 388479433, 382557374, 3463237723, 1494055132, 2848212322] := by
  rw [show fld foxOP 1 = blk ((foxOP.drop (64 * 0)).take 64) (fld foxOP 0) from rfl, show fld foxOP 0 = h0 from rfl, show (foxOP.drop (64 * 0)).take 64 = foxOB0 by decide +kernel]
  unfold blk
  rw [foxO_rds0]
  decide +kernel
def foxOB1 : List Nat := [122, 208, 78, 90, 161, 158, 238, 114, 24, 44, 154, 117, 172, 113, 186, 19, 131, 60, 83, 252, 77, 200, 200, 21, 206, 183, 148, 109, 86, 46, 54, 49, 128, 0, 0, 0, 0, 0, 0, 0, 0, 0, 0, 0, 0, 0, 0, 0, 0, 0, 0, 0, 0, 0, 0, 0, 0, 0, 0, 0, 0, 0, 3, 0]
def foxOW1 : List Nat := [2060471898, 2711547506, 405576309, 2893134355, 2201768956, 1305004053, 3468137581, 1445869105, 2147483648, 0, 0, 0, 0, 0, 0, 768, 3317470927, 1931967203, 1309560555, 4232161875, 2199878961, 1433815007, 96181441, 401345156, 2971748208, 3525689588, 2277224760, 3681548119, 68224421, 187918824, 3138597301, 763112752, 2900329290, 3674177272, 776586084, 4245826450, 2384189663, 3331990788, 3540178663, 3245945101, 1100636370, 1287433186, 1245692687, 906843348, 4020893555, 2410450418, 2964470209, 2794221402, 2330270090, 2633729803, 1156228097, 4175975732, 3162069086, 4157531122, 1351189059, 782109178, 3087681302, 1048681065, 2852675464, 2029214994, 3811510533, 3228741452, 4281665153, 2739037895]
def foxOS1 : List (List Nat) := [[1038912318, 2125183980, 2145836365, 388479433, 382557374, 3463237723, 1494055132, 2848212322],
  [2755115080, 1038912318, 2125183980, 2145836365, 3603603785, 382557374, 3463237723, 1494055132],
  [1750793182, 2755115080, 1038912318, 2125183980, 1978151040, 3603603785, 382557374, 3463237723],
  [879915450, 1750793182, 2755115080, 1038912318, 1469377735, 1978151040, 3603603785, 382557374],
  [3221268361, 879915450, 1750793182, 2755115080, 275669441, 1469377735, 1978151040, 3603603785],
  [3277356965, 3221268361, 879915450, 1750793182, 3094164844, 275669441, 1469377735, 1978151040],
  [1273105736, 3277356965, 3221268361, 879915450, 132513622, 3094164844, 275669441, 1469377735],
  [3169593044, 1273105736, 3277356965, 3221268361, 1032743832, 132513622, 3094164844, 275669441],
  [3780159139, 3169593044, 1273105736, 3277356965, 744710721, 1032743832, 132513622, 3094164844],
  [919786485, 3780159139, 3169593044, 1273105736, 2155446322, 744710721, 1032743832, 132513622],
  [2533766132, 919786485, 3780159139, 3169593044, 2495923095, 2155446322, 744710721, 1032743832],
  [3001117833, 2533766132, 919786485, 3780159139, 365951192, 2495923095, 2155446322, 744710721],
  [4145605027, 3001117833, 2533766132, 919786485, 2489266543, 365951192, 2495923095, 2155446322],
  [1321371771, 4145605027, 3001117833, 2533766132, 4212516188, 2489266543, 365951192, 2495923095],
  [2383441041, 1321371771, 4145605027, 3001117833, 2483715753, 4212516188, 2489266543, 365951192],
  [3442112414, 2383441041, 1321371771, 4145605027, 1799409109, 2483715753, 4212516188, 2489266543],
  [2849771554, 3442112414, 2383441041, 1321371771, 747634090, 1799409109, 2483715753, 4212516188],
  [2679334253, 2849771554, 3442112414, 2383441041, 104511751, 747634090, 1799409109, 2483715753],
  [2494559488, 2679334253, 2849771554, 3442112414, 334518693, 104511751, 747634090, 1799409109],
  [550286598, 2494559488, 2679334253, 2849771554, 490495255, 334518693, 104511751, 747634090],
  [1750157546, 550286598, 2494559488, 2679334253, 1789341793, 490495255, 334518693, 104511751],
  [1678402257, 1750157546, 550286598, 2494559488, 1250630187, 1789341793, 490495255, 334518693],
  [2276213322, 1678402257, 1750157546, 550286598, 1443944721, 1250630187, 1789341793, 490495255],
  [3224121505, 2276213322, 1678402257, 1750157546, 2050661103, 1443944721, 1250630187, 1789341793],
  [1398612815, 3224121505, 2276213322, 1678402257, 2981789487, 2050661103, 1443944721, 1250630187],
  [226601049, 1398612815, 3224121505, 2276213322, 4097767784, 2981789487, 2050661103, 1443944721],
  [1684809431, 226601049, 1398612815, 3224121505, 2751588011, 4097767784, 2981789487, 2050661103],
  [2270484787, 1684809431, 226601049, 1398612815, 2734190640, 2751588011, 4097767784, 2981789487],
  [2040852894, 2270484787, 1684809431, 226601049, 1284483491, 2734190640, 2751588011, 4097767784],
  [1158244954, 2040852894, 2270484787, 1684809431, 1808373878, 1284483491, 2734190640, 2751588011],
  [2894283590, 1158244954, 2040852894, 2270484787, 3853604154, 1808373878, 1284483491, 2734190640],
  [2355150284, 2894283590, 1158244954, 2040852894, 3927672104, 3853604154, 1808373878, 1284483491],
  [1460322398, 2355150284, 2894283590, 1158244954, 4112697447, 3927672104, 3853604154, 1808373878],
  [1802898026, 1460322398, 2355150284, 2894283590, 1749762649, 4112697447, 3927672104, 3853604154],
  [1024834677, 1802898026, 1460322398, 2355150284, 2291074790, 1749762649, 4112697447, 3927672104],
  [1566686026, 1024834677, 1802898026, 1460322398, 1888394580, 2291074790, 1749762649, 4112697447],
  [1402744843, 1566686026, 1024834677, 1802898026, 1632209237, 1888394580, 2291074790, 1749762649],
  [2709600798, 1402744843, 1566686026, 1024834677, 2338573968, 1632209237, 1888394580, 2291074790],
  [658173201, 2709600798, 1402744843, 1566686026, 2521970548, 2338573968, 1632209237, 1888394580],
  [2902196852, 658173201, 2709600798, 1402744843, 466730900, 2521970548, 2338573968, 1632209237],
  [2569377, 2902196852, 658173201, 2709600798, 3849815242, 466730900, 2521970548, 2338573968],
  [707547530, 2569377, 2902196852, 658173201, 765206374, 3849815242, 466730900, 2521970548],
  [1556340131, 707547530, 2569377, 2902196852, 2755021932, 765206374, 3849815242, 466730900],
  [4015584843, 1556340131, 707547530, 2569377, 1590757143, 2755021932, 765206374, 3849815242],
  [2008652715, 4015584843, 1556340131, 707547530, 3746009561, 1590757143, 2755021932, 765206374],
  [3549281572, 2008652715, 4015584843, 1556340131, 2533668875, 3746009561, 1590757143, 2755021932],
  [2056228592, 3549281572, 2008652715, 4015584843, 4102573310, 2533668875, 3746009561, 1590757143],
  [2376954994, 2056228592, 3549281572, 2008652715, 2992428275, 4102573310, 2533668875, 3746009561],
  [1524172382, 2376954994, 2056228592, 3549281572, 1104538456, 2992428275, 4102573310, 2533668875],
  [3956346231, 1524172382, 2376954994, 2056228592, 2759054837, 1104538456, 2992428275, 4102573310],
  [3040904274, 3956346231, 1524172382, 2376954994, 2390248530, 2759054837, 1104538456, 2992428275],
  [1786357042, 3040904274, 3956346231, 1524172382, 1853969289, 2390248530, 2759054837, 1104538456],
  [1393249314, 1786357042, 3040904274, 3956346231, 1828248038, 1853969289, 2390248530, 2759054837],
  [2915460656, 1393249314, 1786357042, 3040904274, 1299000663, 1828248038, 1853969289, 2390248530],
  [4094329420, 2915460656, 1393249314, 1786357042, 982740324, 1299000663, 1828248038, 1853969289],
  [3613623517, 4094329420, 2915460656, 1393249314, 1197912280, 982740324, 1299000663, 1828248038],
  [2844086050, 3613623517, 4094329420, 2915460656, 707323762, 1197912280, 982740324, 1299000663],
  [2057640659, 2844086050, 3613623517, 4094329420, 1830774131, 707323762, 1197912280, 982740324],
  [2693641806, 2057640659, 2844086050, 3613623517, 4237904721, 1830774131, 707323762, 1197912280],
  [451821215, 2693641806, 2057640659, 2844086050, 490557886, 4237904721, 1830774131, 707323762],
  [3263470939, 451821215, 2693641806, 2057640659, 2795735265, 490557886, 4237904721, 1830774131],
  [2470967162, 3263470939, 451821215, 2693641806, 2203449206, 2795735265, 490557886, 4237904721],
  [827046809, 2470967162, 3263470939, 451821215, 1043997920, 2203449206, 2795735265, 490557886],
  [2980563000, 827046809, 2470967162, 3263470939, 2061059838, 1043997920, 2203449206, 2795735265],
  [3117414582, 2980563000, 827046809, 2470967162, 3632266467, 2061059838, 1043997920, 2203449206]]
set_option maxRecDepth 100000 in
theorem foxO_sch1 : sch foxOB1 64 = foxOW1 := sch_of _ _ (by decide +kernel) (by decide +kernel)
set_option maxRecDepth 100000 in
theorem foxO_rds1 : rds foxOB1 [1038912318, 2125183980, 2145836365, 388479433, 382557374, 3463237723, 1494055132, 2848212322] 64 = foxOS1.getD 64 [] := rds_of _ _ _ _ foxO_sch1 (by decide +kernel) (by decide +kernel) 64 (Nat.le_refl _)
set_option maxRecDepth 100000 in
theorem foxO_fld1 : fld foxOP 2 = [4156326900, 810779684, 2972883174, 2859446595, 4014823841, 1229330265, 2538053052, 756694232] := by
  rw [show fld foxOP 2 = blk ((foxOP.drop (64 * 1)).take 64) (fld foxOP 1) from rfl, show fld foxOP 1 = [1038912318, 2125183980, 2145836365, 388479433, 382557374, 3463237723, 1494055132, 2848212322] from foxO_fld0, show (foxOP.drop (64 * 1)).take 64 = foxOB1 by decide +kernel]
  unfold blk
  rw [foxO_rds1]
  decide +kernel
set_option maxRecDepth 100000 in
theorem foxO_sha : sha foxOM = [247, 188, 131, 244, 48, 83, 132, 36, 177, 50, 152, 230, 170, 111, 177, 67, 239, 77, 89, 161, 73, 70, 23, 89, 151, 71, 157, 188, 45, 26, 60, 216] := by
  unfold sha
  rw [foxO_pad, show foxOP.length / 64 = 2 by decide +kernel, foxO_fld1]
  decide +kernel
end Go.Proofs.YtbgnjjbmidkhlaaDoor
/- Codes and keys: what they are, in plain words. -/
namespace Go.Proofs.YtbgnjjbmidkhlaaDoor
set_option linter.unusedVariables false
set_option linter.unusedSimpArgs false
set_option linter.unusedVariables false
def keyB (k : List Nat) : List Nat := if 64 < k.length then sha k else k
def fill64 (k : List Nat) : List Nat := k ++ List.replicate (64 - k.length) 0
def xr (b : Nat) (l : List Nat) : List Nat := l.map fun c => c ^^^ b
/-- a message's code by a key -/
def mac (k m : List Nat) : List Nat := sha (xr 92 (fill64 (keyB k)) ++ sha (xr 54 (fill64 (keyB k)) ++ m))
def exT (k info : List Nat) : Nat → List Nat
  | 0 => []
  | i + 1 => mac k (exT k info i ++ info ++ [(i + 1) % 256])
def exN (k info : List Nat) : Nat → List Nat
  | 0 => []
  | i + 1 => exN k info i ++ exT k info (i + 1)
theorem sha_len (m : List Nat) : (sha m).length = 32 := by
  unfold sha
  have h := fld_len (pad m) ((pad m).length / 64)
  generalize fld (pad m) ((pad m).length / 64) = l at *
  match l, h with
  | [a, b, c, d, e, f, g, i], _ => simp [high_len]
theorem sha_lt (m : List Nat) : ∀ c ∈ sha m, c < 256 := by
  intro c hc
  obtain ⟨w, _, h⟩ := List.mem_flatMap.1 hc
  exact high_lt _ _ c h
theorem keyB_len (k : List Nat) : (keyB k).length ≤ 64 := by
  unfold keyB
  split
  · rw [sha_len]; decide
  · omega
theorem fill64_len (k : List Nat) (h : k.length ≤ 64) : (fill64 k).length = 64 := by simp [fill64]; omega
theorem mac_len (k m : List Nat) : (mac k m).length = 32 := sha_len _
theorem mac_lt (k m : List Nat) : ∀ c ∈ mac k m, c < 256 := sha_lt _
theorem exT_len (k info : List Nat) (i : Nat) : (exT k info (i + 1)).length = 32 := mac_len _ _
theorem exN_len (k info : List Nat) (i : Nat) : (exN k info i).length = 32 * i := by
  induction i with
  | zero => rfl
  | succ i ih => rw [exN, List.length_append, ih, exT_len]; omega
/-- the document's example -/
theorem mac_fox : mac [107, 101, 121] [84, 104, 101, 32, 113, 117, 105, 99, 107, 32, 98, 114, 111, 119, 110, 32, 102, 111, 120, 32, 106, 117, 109, 112, 115, 32, 111, 118, 101, 114, 32, 116, 104, 101, 32, 108, 97, 122, 121, 32, 100, 111, 103] = [247, 188, 131, 244, 48, 83, 132, 36, 177, 50, 152, 230, 170, 111, 177, 67, 239, 77, 89, 161, 73, 70, 23, 89, 151, 71, 157, 188, 45, 26, 60, 216] := by
  unfold mac
  rw [show xr 54 (fill64 (keyB [107, 101, 121])) ++ [84, 104, 101, 32, 113, 117, 105, 99, 107, 32, 98, 114, 111, 119, 110, 32, 102, 111, 120, 32, 106, 117, 109, 112, 115, 32, 111, 118, 101, 114, 32, 116, 104, 101, 32, 108, 97, 122, 121, 32, 100, 111, 103] = foxIM by decide +kernel, foxI_sha]
  rw [show xr 92 (fill64 (keyB [107, 101, 121])) ++ [122, 208, 78, 90, 161, 158, 238, 114, 24, 44, 154, 117, 172, 113, 186, 19, 131, 60, 83, 252, 77, 200, 200, 21, 206, 183, 148, 109, 86, 46, 54, 49] = foxOM by decide +kernel, foxO_sha]
end Go.Proofs.YtbgnjjbmidkhlaaDoor
/- From a law's walk to the law's row, where the row lists the rounds' table. -/
namespace Go.Proofs.YtbgnjjbmidkhlaaDoor
set_option linter.unusedVariables false
set_option linter.unusedSimpArgs false
open Go.ChangeShapes Go.WideShapes Go.ChangeAt Go.RowKit
def laidR : List (String × DataW Unit) := [("quaestor/sha.rounds", Rows.laid_quaestor_sha_rounds)]
theorem laidR_tab : laidR = [("quaestor/sha.rounds", Lib.tabData .u32 (kc.map fun (n : Nat) => (n : Int)))] := rfl
theorem gRounds : Tryd.prog.globalNamed "quaestor/sha.rounds" = some 0 := by kernel_rfl
theorem gRoundsT : (Tryd.prog.globals[0]?).map (·.type) = some 74 := by kernel_rfl
theorem cellsW : Tryd.prog.cellsOf 61 = 1 := by kernel_rfl
theorem cellsR : Tryd.prog.cellsOf 74 = 64 := by kernel_rfl
theorem door_met (os : Os) (args : Array Value) : laidMetH Tryd.prog laidR ((World.doorLaid Tryd.prog 400 os).forCall (fun _ _ => 0) ⟨#[], args, []⟩).memory :=
  laidMetH_of_parts3 (fuel := 8) (laidMet_of_run' 8 (by kernel_rfl) (by kernel_rfl)) (by kernel_rfl) (by kernel_rfl)
theorem of_laid {W : World} (h : laidMetH Tryd.prog laidR W) : (∀ i, i < 64 → W.cell? ⟨0, i, none⟩ = some (.int .u32 (kc.getD i 0 : Nat))) ∧ 0 < W.heap.size := by
  rw [MakeChecks.laidMetH_plain _ _ _ (by kernel_rfl), laidR_tab] at h
  have hT := Lib.tabIs_of_head gRounds gRoundsT Tryd.underlying74 Tryd.underlying61 cellsW cellsR h
  have hc : ∀ i, i < 64 → W.cell? ⟨0, i, none⟩ = some (.int .u32 (kc.getD i 0 : Nat)) := fun i hi => by
    have h1 := hT.cell gRounds i (by rw [List.length_map]; exact hi)
    rw [h1, List.getD_eq_getElem?_getD, List.getElem?_map, List.getD_eq_getElem?_getD, List.getElem?_eq_getElem (show i < kc.length from hi)]
    rfl
  exact ⟨hc, block_lt (hc 0 (by decide))⟩
theorem liftL {os : Os} (started : os.Started) {H : Type} {enc : TypeId × Value → H} (f : FuncId) {fn : Func} {s : ChangeSpec} {conds : List PathCond} (hconds : conds = [])
    (noInit : Tryd.checked.prog.inits.idxOf? f = none) (hfn : Tryd.checked.prog.funcs[f]? = some fn) (hs : LawSpec s fn.params.toList.length) (hres : fn.resultTypes = #[4])
    (hts : ∀ t ∈ fn.params.toList, Tryd.prog.readableRec t = true ∧ t < Tryd.prog.types.size)
    (witness : ∃ (w : World) (tape : Tape) (i : Input), w.os = os ∧ (w.forCall tape i).Shaped Tryd.checked.prog ∧ i.vars = [] ∧ Input.okWide Tryd.checked.prog (w.forCall tape i) .any w.heap.size f i ∧
      ((s.pre enc Tryd.checked.prog fn conds false (w.forCall tape i).memory i.args ∧ laidMetH Tryd.prog laidR (w.forCall tape i).memory) ∧ sizedMet enc Tryd.checked.prog fn (OpenSpec.ofChange s) false (w.forCall tape i).memory i.args) ∧ Assume.holds {} Tryd.checked.prog (lone (Frame.enter Tryd.checked.prog f i.args .normal) [] (w.forCall tape i)))
    (walk : ∀ (W : World) (base : Nat) (args : Array Value) (ds : List (DataW H)) (ps : List MemPlace), (∀ i, i < 64 → W.cell? ⟨0, i, none⟩ = some (.int .u32 (kc.getD i 0 : Nat))) → 0 < W.heap.size →
      (∀ (j : Nat) t v, fn.params[j]? = some t → args[j]? = some v → Value.okWide Tryd.prog W .any base t v) →
      DataW.TrodAll enc Tryd.prog W 0 (fun _ => true) true fn.params.toList args.toList ds ps → (∀ x ∈ ps, x.block < W.heap.size) → Calls Tryd.prog f args W (Yes W)) :
    ReturnsInHanded {} Tryd.checked os f .any (fun w args => (s.pre enc Tryd.prog fn conds false w args ∧ laidMetH Tryd.prog laidR w) ∧ sizedMet enc Tryd.prog fn (OpenSpec.ofChange s) false w args) (s.post enc Tryd.prog fn false true false false) := by
  subst hconds
  refine returnsInHanded_of_change_and (C := Tryd.checked) (X := fun w _ => laidMetH Tryd.prog laidR w) (fun _ _ _ hh h => h.of_heap hh) own started noInit hfn witness ?_
  intro W base args ds gs before hval hW _ _ hL _
  have hW' := hW
  have hlt : ∀ p ∈ before, p.block < W.heap.size := fun p hp => hW.lt p hp
  obtain ⟨p, q, hA, hV, hbef, hfz, hnd⟩ := hW
  rw [hs.1] at hV
  obtain ⟨rfl, rfl⟩ := trodVars_none hV
  rw [List.append_nil] at hbef
  subst hbef
  refine (walk W base args ds _ (of_laid hL).1 (of_laid hL).2 hval hA hlt).mono fun e W' ⟨he, bel⟩ => ?_
  subst he
  have hlen := trodAll_length _ _ _ _ hA
  have hfn' := hs.2 H ds hlen
  refine ⟨_, rfl, ?_⟩
  refine ⟨ds, [], before, [], before, [], hW', ?_, ?_, ?_, bel.frame _, fun h => by cases h⟩
  · rw [List.append_nil, hfn', hres]
    exact trodAll_mk1 (shut_bool Tryd.underlying4 _)
  · rw [List.append_nil, hfn']
    exact trodAll_below laidOut bel _ _ _ _ hts hA hlt
  · rw [List.append_nil, hfn', hs.1]; rfl
end Go.Proofs.YtbgnjjbmidkhlaaDoor
/- Arguments that are arrays of bytes, opened. -/
namespace Go.Proofs.YtbgnjjbmidkhlaaDoor
set_option linter.unusedVariables false
set_option linter.unusedSimpArgs false
open Go.ChangeShapes Go.WideShapes Go.ChangeAt Go.RowKit
theorem byt_of : ∀ cs : List Value, (∀ i, i < cs.length → ∃ n : Nat, n < 256 ∧ (cs.drop i).take 1 = [.int .u8 (n : Int)]) → ∃ l : List Nat, cs = byt l ∧ ∀ c ∈ l, c < 256
  | [], _ => ⟨[], rfl, by simp⟩
  | u :: cs, h => by
    obtain ⟨n, hn, hu⟩ := h 0 (by simp)
    obtain ⟨l, hl, hs⟩ := byt_of cs (fun i hi => by simpa using h (i + 1) (by simp; omega))
    refine ⟨n :: l, ?_, ?_⟩
    · simp at hu; rw [hu, hl]; rfl
    · intro c hc
      rcases List.mem_cons.1 hc with rfl | hc
      · exact hn
      · exact hs c hc
/-- an array of bytes reads as a list of bytes -/
theorem barr_of {H : Type} {enc : TypeId × Value → H} {W : World} {b fuel T n : Nat} {sp : Nat → Bool} {hd : Bool} {cs : List Value} {x : DataW H × List MemPlace}
    (ht : Tryd.prog.underlying T = some (.array n 5)) (hc : Tryd.prog.cellsOf T = n) (h : DataW.trod enc Tryd.prog W b sp hd fuel T cs = some x) : ∃ l : List Nat, cs = byt l ∧ l.length = n ∧ ∀ c ∈ l, c < 256 := by
  obtain ⟨xs, m, _, _, hlen, hx, hg⟩ := DataW.trod_array ht h
  have h1 : Tryd.prog.cellsOf 5 = 1 := by kernel_rfl
  rw [hc] at hlen
  obtain ⟨l, hl, hs⟩ := byt_of cs (fun i hi => by
    have hgi := hg i (by omega)
    rw [h1, Nat.mul_one] at hgi
    have hxi : xs[i]? = some (xs[i]'(by omega)) := List.getElem?_eq_getElem (by omega)
    rw [hxi] at hgi
    obtain ⟨z, hz, _, wz⟩ := DataW.trod_int Tryd.underlying5 hgi
    have hb := bounds_u8 wz
    exact ⟨z.toNat, by omega, by rw [hz, Int.toNat_of_nonneg hb.1]⟩)
  exact ⟨l, hl, by rw [← byt_len, ← hl]; exact hlen, hs⟩
end Go.Proofs.YtbgnjjbmidkhlaaDoor
/- Words in the machine's arithmetic. -/
namespace Go.Proofs.YtbgnjjbmidkhlaaDoor
set_option linter.unusedVariables false
set_option linter.unusedSimpArgs false
set_option linter.unusedVariables false
theorem rot_or {n k : Nat} (hn : n < 4294967296) (hk : 0 < k) (hk2 : k < 32) : (n * 2 ^ (32 - k) % 4294967296) ||| (n / 2 ^ k) = rotr n k := by
  have e : (4294967296 : Nat) = 2 ^ k * 2 ^ (32 - k) := by rw [← Nat.pow_add, show k + (32 - k) = 32 by omega]
  have h1 : n / 2 ^ k < 2 ^ (32 - k) := (Nat.div_lt_iff_lt_mul (Nat.two_pow_pos k)).2 (by rw [Nat.mul_comm]; omega)
  rw [e, Nat.mul_mod_mul_right, Nat.mul_comm (n % 2 ^ k), ← Nat.two_pow_add_eq_or_of_lt h1]
  unfold rotr
  rw [Nat.mul_comm (n % 2 ^ k)]
  omega
theorem wrap32 (z : Int) : IntKind.u32.wrap z = z % 4294967296 := by simp [IntKind.wrap, IntKind.signed, IntKind.bits]
theorem wrap32_add (a b : Nat) : IntKind.u32.wrap ((a : Int) + (b : Int)) = ((ad a b : Nat) : Int) := by
  rw [wrap32]; unfold ad; omega
/-- a number from the left, byte by byte -/
theorem high_succ (n w : Nat) : high n (w + 1) = (n / 256 ^ w % 256) :: high n w := by
  induction w generalizing n with
  | zero => simp [high]
  | succ w ih =>
    rw [high, ih (n / 256), high, Nat.div_div_eq_div_mul, Nat.pow_succ', List.cons_append]
end Go.Proofs.YtbgnjjbmidkhlaaDoor
/- Laws for append onto a row of the call's own, whatever the source; and what is left of other rows. -/
namespace Go.Proofs.YtbgnjjbmidkhlaaDoor
set_option linter.unusedVariables false
set_option linter.unusedSimpArgs false
set_option maxRecDepth 100000
open Go.RowKit
/-- behind an append: the new row; nothing but the old row, and what is new, has turned -/
structure Apped (w : World) (base : Nat) (e : TypeId) (size : Nat) (v : Value) (w' : World) (v' : Value) (n : Nat) (xs : List Value) : Prop where
  own : w'.ownsRow base e size v' n xs
  grown : w.grownBy w' v.ownBlock
  lies : v'.ownBlock = v.ownBlock ∨ v'.ownBlock = some w.heap.size
theorem own_base {w : World} {base : Nat} {e : TypeId} {size n : Nat} {v : Value} {xs : List Value} (h : w.ownsRow base e size v n xs) : ∀ g, v.ownBlock = some g → base ≤ g := by
  intro g hg
  rcases h.2 with ⟨rfl, _⟩ | ⟨g', cap, cur, rfl, hb, _⟩
  · simp [Value.ownBlock] at hg
  · simp [Value.ownBlock] at hg; omega
theorem own_lt {w : World} {base : Nat} {e : TypeId} {size n : Nat} {v : Value} {xs : List Value} (h : w.ownsRow base e size v n xs) : ∀ g, v.ownBlock = some g → g < w.heap.size := by
  intro g hg
  rcases h.2 with ⟨rfl, _⟩ | ⟨g', cap, cur, rfl, _, hh, _⟩
  · simp [Value.ownBlock] at hg
  · simp [Value.ownBlock] at hg
    subst hg
    rcases Nat.lt_or_ge g' w.heap.size with h1 | h1
    · exact h1
    · rw [Array.getElem?_eq_none h1] at hh; cases hh
theorem Apped.below {w w' : World} {base : Nat} {e : TypeId} {size n n0 : Nat} {v v' : Value} {xs xs0 : List Value} (h : Apped w base e size v w' v' n xs) (h0 : w.ownsRow base e size v n0 xs0) (hb : base ≤ w.heap.size) : Below base w w' :=
  (Below.refl _ _).grown h.grown hb (fun k hk => own_base h0 k hk)
/-- a row of the call's own, of some length, has its form; its cells read -/
theorem own_rd {w : World} {base : Nat} {e : TypeId} {size n : Nat} {v : Value} {xs : List Value} (h : w.ownsRow base e size v n xs) : ∃ A cap, v = .slice A n cap ∧ n ≤ cap ∧ cap ≤ maxLen ∧ Rd w w.heap.size A xs := by
  rcases h.2 with ⟨rfl, rfl⟩ | ⟨g, cap, cur, rfl, hb, hh, hn, hm, hc, ht⟩
  · exact ⟨none, 0, rfl, Nat.le_refl _, by simp [maxLen], fun hne => absurd (List.eq_nil_of_length_eq_zero (by simpa using h.1)) hne⟩
  · have hg : g < w.heap.size := by
      rcases Nat.lt_or_ge g w.heap.size with h1 | h1
      · exact h1
      · rw [Array.getElem?_eq_none h1] at hh; cases hh
    refine ⟨_, cap, rfl, hn, hm, fun _ => ⟨_, rfl, hg, fun j u hu => ?_⟩⟩
    have hj : j < n * size := by
      rcases Nat.lt_or_ge j (n * size) with h1 | h1
      · exact h1
      · rw [List.getElem?_eq_none (by rw [h.1]; exact h1)] at hu; cases hu
    have e1 : (Addr.add ⟨g, 0, none⟩ j) = ⟨g, j, none⟩ := by
      unfold Addr.add; split
      · subst_vars; rfl
      · simp
    rw [e1]
    refine cellOf hh ?_
    rw [← ht, List.getElem?_take_of_lt hj] at hu
    simpa using hu
section
variable {P : Program} (w : World)
theorem run_app_nil (base : Nat) (t ty e : TypeId) (i : TypeInfo) (size : Nat) (ht : P.underlying t = some (.slice e)) (hi : P.info? e = some i)
    (v : Value) (n : Nat) (xs : List Value) (hown : w.ownsRow base e size v n xs) (A : Option Addr) (c : Nat) (hA : A = none) : (Builtin.append_ #[t, t] ty #[v, .slice A 0 c]).run P w = .ok v w := by
  subst hA
  rcases hown.2 with ⟨rfl, rfl⟩ | ⟨g, cap, cur, rfl, _, _, hnc, _⟩
  · simp [Builtin.append_, run_underlying ht, sizeOf, typeInfo, hi, Builtin.lenOf, Builtin.firstCells]
  · simp [Builtin.append_, run_underlying ht, sizeOf, typeInfo, hi, Builtin.lenOf, Builtin.firstCells, hnc, storeCells]
theorem run_app (base : Nat) (t ty e : TypeId) (i : TypeInfo) (z : Value) (size bytes : Nat) (ht : P.underlying t = some (.slice e)) (hi : P.info? e = some i) (hz : i.zero = some z)
    (hsize : i.size = size) (hby : i.bytes = bytes) (hzs : z.cells.size = size) (hsz : 0 < size)
    (v : Value) (n : Nat) (xs : List Value) (hown : w.ownsRow base e size v n xs)
    (Bs : Nat) (A : Option Addr) (m c : Nat) (news : List Value) (hl : news.length = m * size) (hr : Rd w Bs A news) (h1 : ∀ u ∈ news, u.oneCell' = true)
    (hn : n + m ≤ 1000000000) (hbytes : (n + m) * bytes ≤ 140737488355328) (hbase : base ≤ w.heap.size) :
    ∃ v' w', (Builtin.append_ #[t, t] ty #[v, .slice A m c]).run P w = .ok v' w' ∧ Apped w base e size v w' v' (n + m) (xs ++ news) := by
  have h63 : n + m ≤ maxLen := by simp only [maxLen]; omega
  rcases Nat.eq_zero_or_pos m with h0 | h0
  · subst h0
    have hnil : news = [] := List.eq_nil_of_length_eq_zero (by simpa using hl)
    subst hnil
    rcases A with _ | ad
    · exact ⟨v, w, run_app_nil w base t ty e i size ht hi v n xs hown none c rfl, ⟨by simpa using hown, World.grownBy.refl w _, .inl rfl⟩⟩
    · obtain ⟨v', w', hrun, h2, h3, _, h5⟩ := run_append_own_at (P := P) w base t ty e i z size bytes ht hi hz hsize hby hzs hsz v n xs hown ad 0 c [] hl (fun j u hu => by simp at hu) h1 h63 hbytes hbase
      exact ⟨v', w', hrun, h2, h3, h5⟩
  · have hne : news ≠ [] := fun hnil => by
      rw [hnil] at hl
      have : 0 < m * size := Nat.mul_pos h0 hsz
      simp at hl; omega
    obtain ⟨ad, rfl, _, hc⟩ := hr hne
    obtain ⟨v', w', hrun, h2, h3, _, h5⟩ := run_append_own_at (P := P) w base t ty e i z size bytes ht hi hz hsize hby hzs hsz v n xs hown ad m c news hl hc h1 h63 hbytes hbase
    exact ⟨v', w', hrun, h2, h3, h5⟩
theorem wp_app {o : Oper} {a : Act} {K : Act → World → Prop} {Q : Exit → Act → World → Prop} (s x : Operand) (t : TypeId)
    (ho : o.op = .call { callee := .builtin .append, args := #[s, x], argTypes := #[t, t] })
    (base : Nat) (e : TypeId) (i : TypeInfo) (z : Value) (size bytes : Nat) (ht : P.underlying t = some (.slice e)) (hi : P.info? e = some i) (hz : i.zero = some z)
    (hsize : i.size = size) (hby : i.bytes = bytes) (hzs : z.cells.size = size) (hsz : 0 < size)
    (v : Value) (n : Nat) (xs : List Value) (hs : a.eval s = v) (hown : w.ownsRow base e size v n xs)
    (Bs : Nat) (A : Option Addr) (m c : Nat) (news : List Value) (hx : a.eval x = .slice A m c) (hl : news.length = m * size) (hr : Rd w Bs A news) (h1 : ∀ u ∈ news, u.oneCell' = true)
    (hn : n + m ≤ 1000000000) (hbytes : (n + m) * bytes ≤ 140737488355328) (hbase : base ≤ w.heap.size)
    (h : ∀ v' w', Apped w base e size v w' v' (n + m) (xs ++ news) → K (a.put o.dst v') w') : o.wp P a w K Q := by
  obtain ⟨v', w', hrun, h2⟩ := run_app (P := P) w base t o.type e i z size bytes ht hi hz hsize hby hzs hsz v n xs hown Bs A m c news hl hr h1 hn hbytes hbase
  unfold Oper.wp execOp
  simp only [ho, resolve, invoke, builtin, Sem.run_bind, Sem.run_pure, Result.andThen_ok, List.map_toArray, List.map_cons, List.map_nil, hs, hx, hrun]
  exact h v' w' h2
theorem wpList_app {ops : Array Oper} {rest : List Oper} {o : Oper} {a : Act} {Q : Exit → Act → World → Prop} (hw : Region.wanted o (yielded ops a.tmps) = true) (s x : Operand) (t : TypeId)
    (ho : o.op = .call { callee := .builtin .append, args := #[s, x], argTypes := #[t, t] })
    (base : Nat) (e : TypeId) (i : TypeInfo) (z : Value) (size bytes : Nat) (ht : P.underlying t = some (.slice e)) (hi : P.info? e = some i) (hz : i.zero = some z)
    (hsize : i.size = size) (hby : i.bytes = bytes) (hzs : z.cells.size = size) (hsz : 0 < size)
    (v : Value) (n : Nat) (xs : List Value) (hs : a.eval s = v) (hown : w.ownsRow base e size v n xs)
    (Bs : Nat) (A : Option Addr) (m c : Nat) (news : List Value) (hx : a.eval x = .slice A m c) (hl : news.length = m * size) (hr : Rd w Bs A news) (h1 : ∀ u ∈ news, u.oneCell' = true)
    (hn : n + m ≤ 1000000000) (hbytes : (n + m) * bytes ≤ 140737488355328) (hbase : base ≤ w.heap.size)
    (h : ∀ v' w', Apped w base e size v w' v' (n + m) (xs ++ news) → wpList P ops Q rest (a.put o.dst v') w') : wpList P ops Q (o :: rest) a w :=
  wpList_step fun K hK => by
    rw [if_pos hw]
    exact wp_app w s x t ho base e i z size bytes ht hi hz hsize hby hzs hsz v n xs hs hown Bs A m c news hx hl hr h1 hn hbytes hbase fun v' w' h2 => hK _ _ (h v' w' h2)
end
theorem byt_one (l : List Nat) : ∀ u ∈ byt l, u.oneCell' = true := by
  intro u hu
  obtain ⟨n, _, rfl⟩ := List.mem_map.1 hu
  rfl
theorem byt_app (l m : List Nat) : byt l ++ byt m = byt (l ++ m) := by simp [byt]
/-- bytes of the call's own -/
def OwnB (w : World) (base : Nat) (v : Value) (l : List Nat) : Prop := w.ownsRow base 5 1 v l.length (byt l)
theorem OwnB.nil_ (w : World) (base : Nat) : OwnB w base (.slice none 0 0) [] := ⟨rfl, .inl ⟨rfl, rfl⟩⟩
theorem OwnB.rd {w : World} {base : Nat} {v : Value} {l : List Nat} (h : OwnB w base v l) : ∃ A cap, v = .slice A l.length cap ∧ l.length ≤ cap ∧ cap ≤ maxLen ∧ Rd w w.heap.size A (byt l) := own_rd h
theorem OwnB.alloc {w : World} {base : Nat} {v : Value} {l : List Nat} (h : OwnB w base v l) (o : Obj) : OwnB (w.alloc o) base v l := World.ownsRow.alloc h o
theorem OwnB.drewN {w : World} {base : Nat} {v : Value} {l : List Nat} (h : OwnB w base v l) (n : Nat) : OwnB (w.drewN n) base v l := h
theorem OwnB.drew {w : World} {base : Nat} {v : Value} {l : List Nat} (h : OwnB w base v l) : OwnB w.drew base v l := h
theorem rd_new (w : World) (cs : List Value) (T : TypeId) (fz : Nat × Nat) : Rd (w.alloc (.cells cs.toArray T fz)) (w.heap.size + 1) (some ⟨w.heap.size, 0, none⟩) cs := fun _ =>
  ⟨_, rfl, Nat.lt_succ_self _, fun j u hu => by
    have e1 : (Addr.add ⟨w.heap.size, 0, none⟩ j) = ⟨w.heap.size, j, none⟩ := by
      unfold Addr.add; split
      · subst_vars; rfl
      · simp
    rw [e1]
    exact cellOf (heapNew w _) (by simpa using hu)⟩
theorem OwnB.snoc {w w' : World} {base : Nat} {v v' : Value} {l : List Nat} {c : Nat} (h : Apped w base 5 1 v w' v' (l.length + 1) (byt l ++ [.int .u8 (c : Int)])) : OwnB w' base v' (l ++ [c]) := by
  have := h.own
  unfold OwnB
  rw [List.length_append, ← byt_app]
  exact this
theorem OwnB.new (w : World) (base : Nat) (l : List Nat) (hb : base ≤ w.heap.size) (hm : l.length ≤ maxLen) : OwnB (w.alloc (.cells (byt l).toArray 5)) base (.slice (some ⟨w.heap.size, 0, none⟩) l.length l.length) l :=
  ⟨by simp [byt_len], .inr ⟨w.heap.size, l.length, _, rfl, hb, heapNew _ _, Nat.le_refl _, hm, by simp [byt_len], List.take_of_length_le (by simp [byt_len])⟩⟩
theorem OwnB.app {w w' : World} {base : Nat} {v v' : Value} {l m : List Nat} (h : Apped w base 5 1 v w' v' (l.length + m.length) (byt l ++ byt m)) : OwnB w' base v' (l ++ m) := by
  have := h.own
  unfold OwnB
  rw [List.length_append, ← byt_app]
  exact this
end Go.Proofs.YtbgnjjbmidkhlaaDoor
/- Which blocks a call may have turned; what stays of rows, blocks, slices elsewhere. -/
namespace Go.Proofs.YtbgnjjbmidkhlaaDoor
set_option linter.unusedVariables false
set_option linter.unusedSimpArgs false
set_option maxRecDepth 100000
open Go.RowKit
/-- only blocks in S, and what is new, may have turned -/
structure Only (S : Nat → Prop) (w w' : World) : Prop where
  os : w'.os = w.os
  tape : w'.tape = w.tape
  output : w'.output = w.output
  size : w.heap.size ≤ w'.heap.size
  block : ∀ k, k < w.heap.size → ¬ S k → w'.heap[k]? = w.heap[k]?
section
variable {S T : Nat → Prop} {w w' w'' : World}
theorem Only.refl (S : Nat → Prop) (w : World) : Only S w w := ⟨rfl, rfl, rfl, Nat.le_refl _, fun _ _ _ => rfl⟩
theorem Only.trans (h : Only S w w') (k : Only S w' w'') : Only S w w'' :=
  ⟨k.os.trans h.os, k.tape.trans h.tape, k.output.trans h.output, Nat.le_trans h.size k.size, fun i hi hn => (k.block i (Nat.lt_of_lt_of_le hi h.size) hn).trans (h.block i hi hn)⟩
/-- what is new since w may have turned as well -/
theorem Only.then_ (h : Only S w w') (k : Only T w' w'') (hT : ∀ i, i < w.heap.size → T i → S i) : Only S w w'' :=
  ⟨k.os.trans h.os, k.tape.trans h.tape, k.output.trans h.output, Nat.le_trans h.size k.size, fun i hi hn => (k.block i (Nat.lt_of_lt_of_le hi h.size) (fun ht => hn (hT i hi ht))).trans (h.block i hi hn)⟩
theorem Only.mono (h : Only S w w') (hS : ∀ i, i < w.heap.size → S i → T i) : Only T w w' :=
  ⟨h.os, h.tape, h.output, h.size, fun i hi hn => h.block i hi (fun hs => hn (hS i hi hs))⟩
theorem Only.of_below (h : Below w.heap.size w w') : Only S w w' := ⟨h.os, h.tape, h.output, h.size, fun i hi _ => h.block i hi⟩
theorem Only.below {B : Nat} (h : Only S w w') (hS : ∀ i, S i → B ≤ i) (hB : B ≤ w.heap.size) : Below B w w' := ⟨h.os, h.tape, h.output, h.size, fun i hi => h.block i (by omega) (fun hs => by have := hS i hs; omega)⟩
theorem Only.of_grown {row : Option Nat} (h : w.grownBy w' row) (hS : ∀ i, row = some i → S i) : Only S w w' := ⟨h.os, h.tape, h.output, h.size, fun i hi hn => h.block i hi (fun e => hn (hS i e.symm))⟩
theorem Only.drew (h : Only S w w') : Only S w w'.drew := ⟨h.os, h.tape, h.output, h.size, h.block⟩
theorem Only.drewN (h : Only S w w') (n : Nat) : Only S w (w'.drewN n) := ⟨h.os, h.tape, h.output, h.size, h.block⟩
theorem Only.alloc (h : Only S w w') (o : Obj) : Only S w (w'.alloc o) :=
  ⟨h.os, h.tape, h.output, Nat.le_trans h.size (by simp), fun i hi hn => (Below.heap_alloc _ _ _ (Nat.lt_of_lt_of_le hi h.size)).trans (h.block i hi hn)⟩
theorem Only.setCell (h : Only S w w') {p : Addr} (hp : p.block < w.heap.size → S p.block) (u : Value) : Only S w (w'.setCell p u) :=
  ⟨h.os, h.tape, h.output, by rw [heapSize_set]; exact h.size, fun i hi hn => (Below.heap_setCell _ _ _ _ (fun e => hn (by subst e; exact hp hi))).trans (h.block i hi hn)⟩
theorem Only.cell (h : Only S w w') {a : Addr} {v : Value} (hc : w.cell? a = some v) (hn : ¬ S a.block) : w'.cell? a = some v := by
  have hlt : a.block < w.heap.size := by
    rcases Nat.lt_or_ge a.block w.heap.size with h1 | h1
    · exact h1
    · simp [World.cell?, Array.getElem?_eq_none h1] at hc
  exact (World.cell?_of_block (h.block _ hlt hn)).trans hc
theorem Only.rd {B : Nat} {A : Option Addr} {xs : List Value} (h : Only S w w') (hr : Rd w B A xs) (hn : ∀ a, A = some a → ¬ S a.block) : Rd w' B A xs := fun hne => by
  obtain ⟨ad, e, hb, hc⟩ := hr hne
  exact ⟨ad, e, hb, fun j u hu => h.cell (hc j u hu) (by rw [add_block]; exact hn ad e)⟩
/-- a block known whole -/
def Blk (w : World) (g : Nat) (t : TypeId) (cs : Array Value) : Prop := w.heap[g]? = some (.cells cs t (0, 0))
theorem Blk.lt {g : Nat} {t : TypeId} {cs : Array Value} (h : Blk w g t cs) : g < w.heap.size := by
  rcases Nat.lt_or_ge g w.heap.size with hlt | hge
  · exact hlt
  · unfold Blk at h; rw [Array.getElem?_eq_none hge] at h; cases h
theorem Blk.keep {g : Nat} {t : TypeId} {cs : Array Value} (h : Blk w g t cs) (ho : Only S w w') (hn : ¬ S g) : Blk w' g t cs := (ho.block g h.lt hn).trans h
theorem Blk.below {B g : Nat} {t : TypeId} {cs : Array Value} (h : Blk w g t cs) (hb : Below B w w') (hg : g < B) : Blk w' g t cs := (hb.block g hg).trans h
theorem Blk.alloc {g : Nat} {t : TypeId} {cs : Array Value} (h : Blk w g t cs) (o : Obj) : Blk (w.alloc o) g t cs := (Below.heap_alloc w o g h.lt).trans h
theorem Blk.far {g : Nat} {t : TypeId} {cs : Array Value} (h : Blk w g t cs) {p : Addr} (hp : g ≠ p.block) (u : Value) : Blk (w.setCell p u) g t cs := (Below.heap_setCell w p u g hp).trans h
theorem Blk.new (w : World) (t : TypeId) (cs : Array Value) : Blk (w.alloc (.cells cs t)) w.heap.size t cs := heapNew w _
theorem Blk.cell {g : Nat} {t : TypeId} {cs : Array Value} (h : Blk w g t cs) (i : Nat) : w.cell? ⟨g, i, none⟩ = cs[i]? := by
  unfold Blk at h; simp [World.cell?, h]
theorem Blk.free {g : Nat} {t : TypeId} {cs : Array Value} (h : Blk w g t cs) (i : Nat) : w.frozen? ⟨g, i, none⟩ = false := freeOf h
theorem Blk.set_ {g : Nat} {t : TypeId} {cs : Array Value} (h : Blk w g t cs) (i : Nat) (u : Value) : Blk (w.setCell ⟨g, i, none⟩ u) g t (cs.setIfInBounds i u) := heapSet u h
/-- a row of the call's own stays where it isn't turned -/
theorem own_keep {base : Nat} {e : TypeId} {size n : Nat} {v : Value} {xs : List Value} (h : w.ownsRow base e size v n xs) (ho : Only S w w') (hn : ∀ g, v.ownBlock = some g → ¬ S g) : w'.ownsRow base e size v n xs := by
  refine ⟨h.1, ?_⟩
  rcases h.2 with ⟨h1, h2⟩ | ⟨g, cap, cur, rfl, hb, hh, r⟩
  · exact .inl ⟨h1, h2⟩
  · have hg : g < w.heap.size := by
      rcases Nat.lt_or_ge g w.heap.size with h1 | h1
      · exact h1
      · rw [Array.getElem?_eq_none h1] at hh; cases hh
    exact .inr ⟨g, cap, cur, rfl, hb, (ho.block g hg (hn g rfl)).trans hh, r⟩
theorem own_alloc {base : Nat} {e : TypeId} {size n : Nat} {v : Value} {xs : List Value} (h : w.ownsRow base e size v n xs) (o : Obj) : (w.alloc o).ownsRow base e size v n xs :=
  own_keep (S := fun _ => False) h ((Only.refl _ _).alloc o) (fun _ _ h => h)
theorem Apped.only {base : Nat} {e : TypeId} {size n : Nat} {v v' : Value} {xs : List Value} (h : Apped w base e size v w' v' n xs) (hS : ∀ g, v.ownBlock = some g → S g) : Only S w w' := Only.of_grown h.grown hS
end
/-- one element's append: the element lies in a block of its own -/
theorem rd_one (w : World) (u : Value) (T : TypeId) : Rd (w.alloc (.cells #[u] T)) (w.heap.size + 1) (some ⟨w.heap.size, 0, none⟩) [u] := rd_new w [u] T (0, 0)
/-- numbers of a kind, as cells -/
def wrd (k : IntKind) (l : List Nat) : List Value := l.map fun (n : Nat) => Value.int k (n : Int)
theorem wrd_len (k : IntKind) (l : List Nat) : (wrd k l).length = l.length := by simp [wrd]
theorem wrd_at {k : IntKind} {l : List Nat} {i : Nat} (h : i < l.length) : (wrd k l)[i]? = some (.int k (l.getD i 0 : Nat)) := by
  simp [wrd, h, List.getD_eq_getElem?_getD]
theorem wrd_one (k : IntKind) (l : List Nat) : ∀ u ∈ wrd k l, u.oneCell' = true := by
  intro u hu
  obtain ⟨n, _, rfl⟩ := List.mem_map.1 hu
  rfl
theorem wrd_app (k : IntKind) (l m : List Nat) : wrd k l ++ wrd k m = wrd k (l ++ m) := by simp [wrd]
theorem Rd.word {w : World} {B : Nat} {A : Option Addr} {k : IntKind} {l : List Nat} (h : Rd w B A (wrd k l)) {i : Nat} (hi : i < l.length) :
    ∃ ad, A = some ad ∧ ad.block < B ∧ w.cell? (ad.add i) = some (.int k (l.getD i 0 : Nat)) := by
  obtain ⟨ad, e, hb, hc⟩ := h (fun h0 => by have := wrd_len k l; rw [h0] at this; simp at this; omega)
  exact ⟨ad, e, hb, hc i _ (wrd_at hi)⟩
/-- numbers in a row of the call's own -/
def OwnK (w : World) (base : Nat) (T : TypeId) (k : IntKind) (v : Value) (l : List Nat) : Prop := w.ownsRow base T 1 v l.length (wrd k l)
theorem OwnK.nil_ (w : World) (base : Nat) (T : TypeId) (k : IntKind) : OwnK w base T k (.slice none 0 0) [] := ⟨rfl, .inl ⟨rfl, rfl⟩⟩
theorem OwnK.rd {w : World} {base : Nat} {T : TypeId} {k : IntKind} {v : Value} {l : List Nat} (h : OwnK w base T k v l) : ∃ A cap, v = .slice A l.length cap ∧ l.length ≤ cap ∧ cap ≤ maxLen ∧ Rd w w.heap.size A (wrd k l) := own_rd h
theorem OwnK.snoc {w w' : World} {base : Nat} {T : TypeId} {k : IntKind} {v v' : Value} {l : List Nat} {c : Nat} (h : Apped w base T 1 v w' v' (l.length + 1) (wrd k l ++ [.int k (c : Int)])) : OwnK w' base T k v' (l ++ [c]) := by
  have := h.own
  unfold OwnK
  rw [List.length_append, ← wrd_app]
  exact this
end Go.Proofs.YtbgnjjbmidkhlaaDoor
/- '==' and '!=' on arrays of bytes. -/
namespace Go.Proofs.YtbgnjjbmidkhlaaDoor
set_option linter.unusedVariables false
set_option linter.unusedSimpArgs false
set_option maxRecDepth 100000
open Go.RowKit
/-- bytes as an array's cells -/
def vb (l : List Nat) : Array Value := (byt l).toArray
theorem vb_size (l : List Nat) : (vb l).size = l.length := by simp [vb, byt_len]
section
variable {P : Program}
theorem keyLits_bytes {T e : TypeId} {n D : Nat} (ht : P.underlying T = some (.array n e)) (he : P.underlying e = some (.int .u8)) (hc : P.cellsOf T = n) (h1 : P.cellsOf e = 1) (l : List Nat) (hl : l.length = n) (hs : ∀ c ∈ l, c < 256) :
    P.keyLits (D + 2) T (byt l) = some (l.map fun (c : Nat) => Lit.int .u8 (c : Int)) := by
  have hm : ∀ (is : List Nat), (∀ i ∈ is, i < l.length) → (is.mapM fun i => P.keyLits (D + 1) e (((byt l).drop (i * 1)).take 1)) = some (is.map fun i => [Lit.int .u8 (l.getD i 0 : Nat)]) := by
    intro is
    induction is with
    | nil => intro _; rfl
    | cons i is ih =>
      intro h
      have hi := h i (by simp)
      have hk : P.keyLits (D + 1) e (((byt l).drop (i * 1)).take 1) = some [Lit.int .u8 (l.getD i 0 : Nat)] := by
        rw [Nat.mul_one, List.drop_eq_getElem_cons (by rw [byt_len]; exact hi)]
        have hg : (byt l)[i]'(by rw [byt_len]; exact hi) = .int .u8 (l.getD i 0 : Nat) := by
          have := byt_at hi
          rw [List.getElem?_eq_getElem (by rw [byt_len]; exact hi)] at this
          exact Option.some.inj this
        rw [hg]
        have hb := getD_lt hs i
        have hw : (Lit.int .u8 ((l.getD i 0 : Nat) : Int)).wf = true := WalkArith.wf_u8 ⟨by omega, by omega⟩
        simp only [List.take_succ_cons, List.take_zero, Program.keyLits, he]
        rw [if_pos (by first | exact hw | exact ⟨trivial, hw⟩)]
      rw [List.mapM_cons, hk, ih (fun j hj => h j (by simp [hj]))]
      rfl
  have hflat : ((List.range l.length).map fun i => [Lit.int .u8 ((l.getD i 0 : Nat) : Int)]).flatten = l.map fun (c : Nat) => Lit.int .u8 (c : Int) := by
    have : ∀ is : List Nat, (is.map fun i => [Lit.int .u8 ((l.getD i 0 : Nat) : Int)]).flatten = is.map fun i => Lit.int .u8 ((l.getD i 0 : Nat) : Int) := by
      intro is; induction is with
      | nil => rfl
      | cons i is ih => simp only [List.map_cons, List.flatten_cons, List.singleton_append, ih]
    rw [this]
    apply List.ext_getElem
    · simp
    · intro i h1 h2
      simp at h1
      simp [List.getD_eq_getElem?_getD, h1]
  have hstep : P.keyLits (D + 2) T (byt l) = if (byt l).length = P.cellsOf T then ((List.range n).mapM fun i => P.keyLits (D + 1) e (((byt l).drop (i * P.cellsOf e)).take (P.cellsOf e))).map List.flatten else none := by
    conv => lhs; unfold Program.keyLits
    rw [ht]
  rw [hstep, hc, h1, if_pos (by rw [byt_len]; exact hl), ← hl, hm _ (fun i hi => List.mem_range.1 hi), Option.map_some, hflat]
theorem lits_inj {l m : List Nat} (h : (l.map fun (c : Nat) => Lit.int .u8 (c : Int)) = m.map fun (c : Nat) => Lit.int .u8 (c : Int)) : l = m := by
  have hinj : ∀ a b : Nat, Lit.int .u8 (a : Int) = Lit.int .u8 (b : Int) → a = b := fun a b h => by injection h with _ h; omega
  induction l generalizing m with
  | nil => cases m with
    | nil => rfl
    | cons => simp at h
  | cons a l ih => cases m with
    | nil => simp at h
    | cons b m =>
      simp only [List.map_cons, List.cons.injEq] at h
      rw [hinj _ _ h.1, ih h.2]
/-- '==' on arrays of bytes -/
theorem run_equalIn_barr {T e : TypeId} {n : Nat} (ht : P.underlying T = some (.array n e)) (he : P.underlying e = some (.int .u8)) (hc : P.cellsOf T = n) (h1 : P.cellsOf e = 1)
    (l m : List Nat) (hl : l.length = n) (hm : m.length = n) (hs : ∀ c ∈ l, c < 256) (hs2 : ∀ c ∈ m, c < 256) (w : World) :
    (Op.equalIn 10000 T (.agg (vb l)) (.agg (vb m))).run P w = .ok (l == m) w := by
  have hk : P.keyTypeAt 2 T = true := by simp [Program.keyTypeAt, ht, he]
  have hf : ∀ k : List Nat, k.length = n → (Value.agg (vb k)).formed P T = true := fun k h => by simp [Value.formed, ht, hc, vb_size, h]
  obtain ⟨r, hr, hiff⟩ := run_equalIn_deep (P := P) 9998 2 T hk w 2 2 (.agg (vb l)) (.agg (vb m)) _ _ (hf l hl) (hf m hm)
    (by simpa [Value.cells, vb] using keyLits_bytes (D := 0) ht he hc h1 l hl hs) (by simpa [Value.cells, vb] using keyLits_bytes (D := 0) ht he hc h1 m hm hs2)
  rw [show 9998 + 2 = 10000 from rfl] at hr
  rw [hr]
  congr 1
  by_cases h : l = m
  · subst h; rw [hiff.2 rfl]; simp
  · have : r = false := by
      cases r with
      | true => exact absurd (lits_inj (hiff.1 rfl)) h
      | false => rfl
    rw [this]; simp [h]
end
end Go.Proofs.YtbgnjjbmidkhlaaDoor
/- Contracts of the small functions on bytes that everything calls: Same. -/
namespace Go.Proofs.YtbgnjjbmidkhlaaDoor
set_option linter.unusedVariables false
set_option linter.unusedSimpArgs false
set_option maxRecDepth 100000
open Go.RowKit
theorem byteInfo : (Tryd.prog.info? 5).map (fun i => (i.zero, i.size, i.bytes)) = some (some (.int .u8 0), 1, 1) := by kernel_rfl
def Quietly (v : Value) (w : World) (e : Ending) (w' : World) : Prop := e = .returned v ∧ ∃ n, w' = w.drewN n
theorem quietly_below {w w' : World} {v : Value} {e : Ending} (h : Quietly v w e w') : e = .returned v ∧ Below w.heap.size w w' := by
  obtain ⟨h1, n, rfl⟩ := h
  exact ⟨h1, belowDrewN n (Below.refl _ _)⟩
theorem take_succ_eq {l m : List Nat} {k : Nat} (h1 : k < l.length) (h2 : k < m.length) : l.take (k + 1) = m.take (k + 1) ↔ l.take k = m.take k ∧ l.getD k 0 = m.getD k 0 := by
  rw [List.take_succ_eq_append_getElem h1, List.take_succ_eq_append_getElem h2, List.getD_eq_getElem?_getD, List.getD_eq_getElem?_getD, List.getElem?_eq_getElem h1, List.getElem?_eq_getElem h2]
  constructor
  · intro h
    have := List.append_inj h (by simp; omega)
    exact ⟨this.1, by simpa using this.2⟩
  · rintro ⟨h, h'⟩
    simp at h'
    rw [h, h']
theorem vb_set (l : List Nat) (i n : Nat) : (vb l).setIfInBounds i (.int .u8 (n : Int)) = vb (l.set i n) := by
  unfold vb byt
  rw [List.setIfInBounds_toArray]
  congr 1
  rw [List.map_set]
theorem made_bytes (n : Nat) : madeCells #[.int .u8 0] n = vb (List.replicate n 0) := by
  apply Array.toList_inj.1
  rw [toList_madeCells_one]
  simp [vb, byt]
theorem run_make_bytes (n : Nat) (hn : n ≤ 1000000000) (w : World) :
    (Instr.makeSlice 36 (.int .i64 (n : Int)) (.int .i64 (n : Int))).run Tryd.prog w = .ok (.slice (some ⟨w.heap.size, 0, none⟩) n n) (w.alloc (.cells (vb (List.replicate n 0)) 5)) := by
  obtain ⟨i, hi, hz, h1, h2⟩ := info_parts byteInfo
  have hr := run_make (P := Tryd.prog) w 36 5 i (.int .u8 0) Tryd.underlying36 hi hz .i64 .i64 (n : Int) (n : Int) (by omega) (by omega) (by rw [h2]; omega) (by omega)
  rw [h1] at hr
  simp only [Int.toNat_natCast] at hr
  rw [← made_bytes]
  simpa [Value.cells] using hr
theorem hide_ {p : Prop} (h : p) : Hid p := h
theorem unhide_ {p : Prop} (h : Hid p) : p := h
/-- lent bytes, with eight more behind them -/
def lent (l : List Nat) : List Nat := l ++ List.replicate 8 165
def lentTo (l : List Nat) (k : Nat) : List Nat := (lent l).take k ++ List.replicate (l.length + 8 - k) 0
theorem lent_len (l : List Nat) : (lent l).length = l.length + 8 := by simp [lent]
theorem lentTo_set (l : List Nat) (k : Nat) (h : k < l.length + 8) : (lentTo l k).set k ((lent l).getD k 0) = lentTo l (k + 1) := by
  have hk : k < (lent l).length := by rw [lent_len]; exact h
  unfold lentTo
  rw [List.take_succ_eq_append_getElem hk, List.getD_eq_getElem?_getD, List.getElem?_eq_getElem hk, show l.length + 8 - k = (l.length + 8 - (k + 1)) + 1 by omega, List.replicate_succ]
  rw [List.set_append, if_neg (by rw [List.length_take]; omega)]
  rw [List.length_take, Nat.min_eq_left (by omega), Nat.sub_self, List.set_cons_zero, List.append_assoc, List.singleton_append, Option.getD_some]
theorem lentTo_all (l : List Nat) : lentTo l (l.length + 8) = lent l := by
  unfold lentTo
  rw [List.take_of_length_le (by rw [lent_len]; exact Nat.le_refl _)]; simp
theorem lent_at {l : List Nat} {k : Nat} (h : k < l.length) : (lent l).getD k 0 = l.getD k 0 := by
  simp [lent, List.getD_eq_getElem?_getD, List.getElem?_append, h]
theorem lent_far {l : List Nat} {k : Nat} (h : l.length ≤ k) (h2 : k < l.length + 8) : (lent l).getD k 0 = 165 := by
  rw [List.getD_eq_getElem?_getD, lent, List.getElem?_append_right h, List.getElem?_replicate, if_pos (by omega)]
  rfl
theorem lent_lt {l : List Nat} (h : ∀ c ∈ l, c < 256) : ∀ c ∈ lent l, c < 256 := fun c hc => by
  rcases List.mem_append.1 hc with hc | hc
  · exact h c hc
  · rw [List.eq_of_mem_replicate hc]; omega
/-- the block that lent bytes lie in -/
def LentAt (w : World) (g : Nat) (l : List Nat) : Prop := Blk w g 5 (vb (lent l))
theorem rd_blk {w : World} {g : Nat} {T : TypeId} {cs : Array Value} (h : Blk w g T cs) (xs : List Value) (n : Nat) (hx : xs = cs.toList.take n) : Rd w (g + 1) (some ⟨g, 0, none⟩) xs := fun _ =>
  ⟨_, rfl, Nat.lt_succ_self _, fun j u hu => by
    have e1 : (Addr.add ⟨g, 0, none⟩ j) = ⟨g, j, none⟩ := by
      unfold Addr.add; split
      · subst_vars; rfl
      · simp
    rw [e1, h.cell]
    rw [hx] at hu
    have hj : j < n := by
      rcases Nat.lt_or_ge j n with h1 | h1
      · exact h1
      · rw [List.getElem?_eq_none (by rw [List.length_take]; omega)] at hu; cases hu
    rw [List.getElem?_take_of_lt hj] at hu
    simpa using hu⟩
theorem LentAt.rd {w : World} {g : Nat} {l : List Nat} (h : LentAt w g l) : Rd w (g + 1) (some ⟨g, 0, none⟩) (byt l) :=
  rd_blk h (byt l) l.length (by simp [vb, lent, byt])
end Go.Proofs.YtbgnjjbmidkhlaaDoor
/- Contracts: Clone, the forms of numbers. -/
namespace Go.Proofs.YtbgnjjbmidkhlaaDoor
set_option linter.unusedVariables false
set_option linter.unusedSimpArgs false
open Go.RowKit
theorem cell_lt {w : World} {a : Addr} {v : Value} (h : w.cell? a = some v) : a.block < w.heap.size := by
  rcases Nat.lt_or_ge a.block w.heap.size with h1 | h1
  · exact h1
  · simp [World.cell?, Array.getElem?_eq_none h1] at h
theorem Rd.ext {w w' : World} {B : Nat} {A : Option Addr} {xs : List Value} (h : Rd w B A xs) (hb : Below w.heap.size w w') : Rd w' B A xs := fun hn => by
  obtain ⟨ad, e, hab, hc⟩ := h hn
  exact ⟨ad, e, hab, fun j u hu => (hb.cell (cell_lt (hc j u hu))).trans (hc j u hu)⟩
theorem Rd.none_nil {w : World} {B : Nat} {xs : List Value} (h : Rd w B none xs) : xs = [] := by
  by_cases hn : xs = []
  · exact hn
  · obtain ⟨_, e, _⟩ := h hn; cases e
/-- what a call hands back: bytes of its own -/
def Gives (l : List Nat) (w : World) (e : Ending) (w' : World) : Prop := ∃ v, e = .returned v ∧ OwnB w' w.heap.size v l ∧ Below w.heap.size w w'
set_option maxRecDepth 100000 in
set_option maxHeartbeats 400000 in
theorem clone_c (B : Nat) (A : Option Addr) (ca : Nat) (l : List Nat) (w : World) (hr : Rd w B A (byt l)) (h1 : l.length ≤ 100000000) :
    Calls Tryd.prog 23 #[.slice A l.length ca] w (Gives l w) := by
  obtain ⟨i0, hi, hz0, hz1, hz2⟩ := info_parts byteInfo
  have HR := Lib.hid hr
  clear hr
  cases A with
  | none =>
    have hq := fun (W : World) (n c : Nat) => Lib.run_eql_slice_nil (P := Tryd.prog) W 36 5 none n c 0 0 Tryd.underlying36
    simp only [Option.isNone_none] at hq
    obtain rfl : l = [] := by have := HR.out.none_nil; simpa [byt] using this
    go_enter Tryd.func23, Tryd.ntmps23
    go_wp2
    go_ret
    exact ⟨_, rfl, OwnB.nil_ _ _, Below.refl _ _⟩
  | some ad =>
    have hq := fun (W : World) (n c : Nat) => Lib.run_eql_slice_nil (P := Tryd.prog) W 36 5 (some ad) n c 0 0 Tryd.underlying36
    simp only [Option.isNone_some] at hq
    go_enter Tryd.func23, Tryd.ntmps23
    go_wp2_with (at_builtin; refine wpList_app _ rfl (.tmp 5) (.tmp 6) _ rfl w.heap.size 5 i0 (.int .u8 0) 1 1 Tryd.underlying36 hi hz0 hz1 hz2 rfl (by decide) _ 0 [] rfl (by exact OwnB.new _ _ [] (Nat.le_refl _) (by simp [maxLen])) B (some ad) l.length ca (byt l) rfl (by simp [byt_len]) (HR.out.ext ((Below.refl _ _).alloc (Nat.le_refl _) _)) (byt_one l) (by omega) (by omega) (by simp) ?_; intro v1 w1 hap)
    go_ret
    refine ⟨v1, rfl, ?_, ((Below.refl _ _).alloc (Nat.le_refl _) _).trans (hap.below (by exact OwnB.new _ _ [] (Nat.le_refl _) (by simp [maxLen])) (by simp))⟩
    have := hap.own
    simpa [OwnB] using this
/-- a number's bytes, the lowest first -/
def form : Nat → Nat → List Nat
  | _, 0 => []
  | n, w + 1 => n % 256 :: form (n / 256) w
theorem form_len (n w : Nat) : (form n w).length = w := by
  induction w generalizing n with
  | zero => rfl
  | succ w ih => simp [form, ih]
theorem form_lt (n w : Nat) : ∀ c ∈ form n w, c < 256 := by
  induction w generalizing n with
  | zero => simp [form]
  | succ w ih =>
    intro c hc
    rcases List.mem_cons.1 hc with rfl | hc
    · exact Nat.mod_lt _ (by decide)
    · exact ih _ c hc
theorem form_succ (n w : Nat) : form n (w + 1) = form n w ++ [n / 256 ^ w % 256] := by
  induction w generalizing n with
  | zero => simp [form]
  | succ w ih =>
    rw [form, ih (n / 256), form, List.cons_append, Nat.div_div_eq_div_mul, Nat.pow_succ']
def number : List Nat → Nat
  | [] => 0
  | c :: l => number l * 256 + c
theorem number_lt : ∀ l : List Nat, (∀ c ∈ l, c < 256) → number l < 256 ^ l.length
  | [], _ => by simp [number]
  | c :: l, h => by
    have h1 := number_lt l (fun c hc => h c (by simp [hc]))
    have h2 := h c (by simp)
    rw [number, List.length_cons, Nat.pow_succ]
    omega
theorem form_number : ∀ l : List Nat, (∀ c ∈ l, c < 256) → form (number l) l.length = l
  | [], _ => rfl
  | c :: l, h => by
    have h2 := h c (by simp)
    rw [List.length_cons, form, number, show (number l * 256 + c) % 256 = c by omega, show (number l * 256 + c) / 256 = number l by omega, form_number l (fun c hc => h c (by simp [hc]))]
theorem number_form (n w : Nat) (h : n < 256 ^ w) : number (form n w) = n := by
  induction w generalizing n with
  | zero => simp at h; subst h; rfl
  | succ w ih =>
    rw [form, number, ih (n / 256) (by rw [Nat.pow_succ] at h; omega)]
    omega
theorem number_drop {l : List Nat} {j : Nat} (hj : j < l.length) : number (l.drop j) = number (l.drop (j + 1)) * 256 + l.getD j 0 := by
  rw [List.drop_eq_getElem_cons hj, List.getD_eq_getElem?_getD, List.getElem?_eq_getElem hj]; rfl
end Go.Proofs.YtbgnjjbmidkhlaaDoor
/- Contracts: numbers laid and read. -/
namespace Go.Proofs.YtbgnjjbmidkhlaaDoor
set_option linter.unusedVariables false
set_option linter.unusedSimpArgs false
open Go.RowKit
theorem div_pow_succ (n k : Nat) : n / 256 ^ k / 256 = n / 256 ^ (k + 1) := by rw [Nat.div_div_eq_div_mul, ← Nat.pow_succ]
theorem div_pow_lt (n k : Nat) (h : n < 2 ^ 64) : n / 256 ^ k < 2 ^ 64 := Nat.lt_of_le_of_lt (Nat.div_le_self _ _) h
set_option maxRecDepth 100000 in
set_option maxHeartbeats 400000 in
theorem rform_c (n k : Nat) (w : World) (hn : n < 2 ^ 64) (hk : k ≤ 1000) :
    Calls Tryd.prog 18 #[.int .u64 n, .int .i64 k] w (Gives (form n k) w) := by
  obtain ⟨i0, hi, hz0, hz1, hz2⟩ := info_parts byteInfo
  go_enter Tryd.func18, Tryd.ntmps18
  go_wp2
  go_loopw [0, 5, 6] (fun N u i wr => ∃ j : Nat, j ≤ k ∧ i = .int .i64 j ∧ N = .int .u64 (n / 256 ^ j : Nat) ∧ OwnB wr w.heap.size u (form n j) ∧ Below w.heap.size w wr) (fun _ _ i _ => k - (intOf i).toNat)
  case atStart => exact ⟨0, Nat.zero_le _, rfl, by simp, OwnB.nil_ _ _, Below.refl _ _⟩
  case round =>
    rename_i wr
    obtain ⟨j, hj, rfl, rfl, ho, hb⟩ := hrel
    have HO := Lib.hid ho
    have HB := Lib.hid hb
    have hnl := div_pow_lt n j hn
    have HF := Lib.hid (form_succ n j)
    have HD := Lib.hid (div_pow_succ n j)
    have HLen := Lib.hid (form_len n j)
    clear ho hb
    generalize n / 256 ^ j = q at *
    by_cases hlt : j < k
    · go_wp2_with (at_builtin; refine wpList_app _ rfl (.tmp 12) (.tmp 16) _ rfl w.heap.size 5 i0 (.int .u8 0) 1 1 Tryd.underlying36 hi hz0 hz1 hz2 rfl (by decide) _ _ _ rfl (HO.out.alloc _) _ _ 1 1 [.int .u8 (q % 256 : Nat)] rfl rfl (by exact rd_one _ _ _) (byt_one [q % 256]) (by rw [HLen.out]; omega) (by rw [HLen.out]; omega) (by have := HB.out.size; simp; omega) ?_; intro v1 w2 hap)
      go_roundw
      case rel =>
        go_light
        refine ⟨j + 1, by omega, by go_num, by rw [← HD.out]; go_num, ?_, (HB.out.alloc HB.out.size _).trans (hap.below (HO.out.alloc _) (by have := HB.out.size; simp; omega))⟩
        rw [HF.out]
        exact OwnB.snoc hap
      case measure => simp [intOf]; omega
    · obtain rfl : j = k := by omega
      go_wp2
      go_ret
      exact ⟨_, rfl, HO.out, HB.out⟩
/-- what num.Put lays behind -/
def tailOf (n : Nat) (wd : Int) : List Nat := if 8 < wd then [] else form n wd.toNat
set_option maxRecDepth 100000 in
set_option maxHeartbeats 400000 in
theorem put_c (B : Nat) (A : Option Addr) (ca : Nat) (l : List Nat) (n : Nat) (wd : Int) (w : World) (hr : Rd w B A (byt l)) (hn : n < 2 ^ 64) (hw1 : -9223372036854775808 ≤ wd) (hw2 : wd ≤ 9223372036854775807) (h1 : l.length ≤ 10000000) :
    Calls Tryd.prog 12 #[.slice A l.length ca, .int .u64 n, .int .i64 wd] w (Gives (l ++ tailOf n wd) w) := by
  obtain ⟨i0, hi, hz0, hz1, hz2⟩ := info_parts byteInfo
  have HR := Lib.hid hr
  clear hr
  go_enter Tryd.func12, Tryd.ntmps12
  go_wp2_with fail
  refine (clone_c B A ca l _ HR.out (by omega)).mono ?_
  rintro e w1 ⟨v, rfl, ho, hb⟩
  have HO := Lib.hid ho
  have HB := Lib.hid hb
  clear ho hb
  by_cases h8 : 8 < wd
  · have HT := Lib.hid (show l ++ tailOf n wd = l by simp [tailOf, h8])
    go_wp2
    go_ret
    rw [HT.out]
    exact ⟨_, rfl, HO.out, HB.out⟩
  · have HT := Lib.hid (show tailOf n wd = form n wd.toNat by simp [tailOf, h8])
    have hdec : decide (8 < wd) = false := decide_eq_false h8
    go_wp2
    obtain ⟨m, hm⟩ : ∃ m : Nat, m = wd.toNat := ⟨_, rfl⟩
    have hm8 : m ≤ 8 := by omega
    go_loopw [1, 7, 14] (fun N u i wr => ∃ j : Nat, j ≤ m ∧ i = .int .i64 j ∧ N = .int .u64 (n / 256 ^ j : Nat) ∧ OwnB wr w.heap.size u (l ++ form n j) ∧ Below w.heap.size w wr) (fun _ _ i _ => m - (intOf i).toNat)
    case atStart => exact ⟨0, Nat.zero_le _, rfl, by simp, by simpa [form] using HO.out, HB.out⟩
    case round =>
      rename_i wr
      obtain ⟨j, hj, rfl, rfl, ho, hb⟩ := hrel
      have HO2 := Lib.hid ho
      have HB2 := Lib.hid hb
      have hnl := div_pow_lt n j hn
      have HF := Lib.hid (form_succ n j)
      have HD := Lib.hid (div_pow_succ n j)
      have hlen : (l ++ form n j).length ≤ 10000010 := by rw [List.length_append, form_len]; omega
      have HLen := Lib.hid hlen
      have HM := Lib.hid hm
      have HE := Lib.hid (show ((n / 256 ^ j : Nat) : Int) % 256 = ((n / 256 ^ j % 256 : Nat) : Int) by omega)
      have hjw : ((j : Int) < wd) ∨ ¬ ((j : Int) < wd) := by omega
      clear ho hb hm hlen
      generalize n / 256 ^ j = q at *
      rcases hjw with hlt | hge
      · go_wp2_with (at_builtin; refine wpList_app _ rfl (.tmp 16) (.tmp 19) _ rfl w.heap.size 5 i0 (.int .u8 0) 1 1 Tryd.underlying36 hi hz0 hz1 hz2 rfl (by decide) _ _ _ rfl (HO2.out.alloc _) _ _ 1 1 [.int .u8 (q % 256 : Nat)] rfl rfl (by exact rd_one _ _ _) (byt_one [q % 256]) (by have := HLen.out; omega) (by have := HLen.out; omega) (by have := HB2.out.size; simp; omega) ?_; intro v1 w2 hap)
        go_roundw
        case rel =>
          go_light
          refine ⟨j + 1, by have := HM.out; omega, by go_num, by rw [← HD.out]; go_num, ?_, (HB2.out.alloc HB2.out.size _).trans (hap.below (HO2.out.alloc _) (by have := HB2.out.size; simp; omega))⟩
          rw [HF.out, ← List.append_assoc]
          exact OwnB.snoc hap
        case measure => have := HM.out; simp [intOf]; omega
      · go_wp2
        go_ret
        have hjm : j = wd.toNat := by have := HM.out; omega
        rw [HT.out, ← hjm]
        exact ⟨_, rfl, HO2.out, HB2.out⟩
set_option maxRecDepth 100000 in
set_option maxHeartbeats 400000 in
theorem rnumber_c (B : Nat) (A : Option Addr) (ca : Nat) (l : List Nat) (w : World) (hr : Rd w B A (byt l)) (hl : ∀ c ∈ l, c < 256) (h8 : l.length ≤ 8) :
    Calls Tryd.prog 33 #[.slice A l.length ca] w fun e w' => e = .returned (.int .u64 (number l : Nat)) ∧ w = w' := by
  have HR := Lib.hid hr
  have HL := Lib.hid hl
  clear hr hl
  generalize hn : l.length = n at *
  have HN := Lib.hid hn
  clear hn
  go_enter Tryd.func33, Tryd.ntmps33
  go_wp2
  go_loop [3, 4] (fun v i => ∃ k : Nat, k ≤ n ∧ i = .int .i64 ((k : Int) - 1) ∧ v = .int .u64 (number (l.drop k) : Nat)) (fun _ i => (intOf i + 1).toNat)
  case atStart => exact ⟨n, Nat.le_refl _, rfl, by rw [← HN.out, List.drop_length]; rfl⟩
  case round =>
    obtain ⟨k, hk, rfl, rfl⟩ := hrel
    cases k with
    | zero =>
      rw [show (((0 : Nat) : Int) - 1) = -1 from rfl]
      go_wp2
      go_ret
      exact ⟨rfl, rfl⟩
    | succ j =>
      rw [show (((j + 1 : Nat) : Int) - 1) = (j : Int) from by omega]
      have hj : j < l.length := by have := HN.out; omega
      obtain ⟨ad, rfl, hb, hc⟩ := HR.out.byte hj
      have hlt := getD_lt HL.out j
      have HST := Lib.hid (number_drop hj)
      have hnum : number (l.drop (j + 1)) < 256 ^ 7 := Nat.lt_of_lt_of_le (number_lt _ (drop_lt HL.out _)) (Nat.pow_le_pow_right (by decide) (by rw [List.length_drop]; have := HN.out; omega))
      have hnum2 : number (l.drop (j + 1)) < 72057594037927936 := hnum
      clear hj hnum
      generalize number (l.drop (j + 1)) = v at *
      generalize l.getD j 0 = c at *
      go_wp2
      go_round
      case rel => exact ⟨j, by omega, rfl, by rw [HST.out]; go_num⟩
      case measure => simp [intOf]
/-- num.Get's error -/
def getErr (len : Nat) (wd : Int) : Int := if wd < 1 ∨ 8 < wd then 1 else if (len : Int) < wd then 2 else 0
def getNum (l : List Nat) (wd : Int) : Nat := if getErr l.length wd = 0 then number (l.take wd.toNat) else 0
theorem or_low (a c : Nat) (ha : a < 72057594037927936) (hc : c < 256) : Go.bits BinOp.or IntKind.u64 ((a : Int) * 256) (c : Int) = ((a * 256 + c : Nat) : Int) := by
  have e : (a : Int) * 256 = ((a * 256 : Nat) : Int) := by omega
  rw [e, u64_or_nat _ _ (by omega) (by omega), show a * 256 = 2 ^ 8 * a by omega, Nat.two_pow_add_eq_or_of_lt (i := 8) hc a]
set_option maxRecDepth 100000 in
set_option maxHeartbeats 400000 in
theorem get_c (B : Nat) (A : Option Addr) (ca : Nat) (l : List Nat) (wd : Int) (w : World) (hr : Rd w B A (byt l)) (hl : ∀ c ∈ l, c < 256) (_hlen : l.length ≤ 1000000000) (hw1 : -9223372036854775808 ≤ wd) (hw2 : wd ≤ 9223372036854775807) :
    Calls Tryd.prog 24 #[.slice A l.length ca, .int .i64 wd] w fun e w' => e = .returned (.tuple #[.int .u64 (getNum l wd : Nat), .int .i64 (getErr l.length wd)]) ∧ w = w' := by
  have HR := Lib.hid hr
  have HL := Lib.hid hl
  clear hr hl
  by_cases h1 : wd < 1 ∨ 8 < wd
  · have he : getErr l.length wd = 1 := by simp [getErr, h1]
    have hg : getNum l wd = 0 := by simp [getNum, he]
    rw [he, hg]
    rcases h1 with h1 | h1
    · generalize l.length = n at *
      go_enter Tryd.func24, Tryd.ntmps24
      go_wp2
      go_ret2
      exact ⟨rfl, rfl⟩
    · have h2 : ¬ wd < 1 := by omega
      generalize l.length = n at *
      go_enter Tryd.func24, Tryd.ntmps24
      go_wp2
      go_ret2
      exact ⟨rfl, rfl⟩
  · have h2 : 1 ≤ wd := by omega
    have h3 : wd ≤ 8 := by omega
    by_cases h4 : (l.length : Int) < wd
    · have he : getErr l.length wd = 2 := by simp [getErr, h1, h4]
      have hg : getNum l wd = 0 := by simp [getNum, he]
      rw [he, hg]
      clear h1 he hg
      generalize l.length = n at *
      go_enter Tryd.func24, Tryd.ntmps24
      go_wp2
      go_ret2
      exact ⟨rfl, rfl⟩
    · have he : getErr l.length wd = 0 := by simp [getErr, h1, h4]
      have hg := Lib.hid (show getNum l wd = number (l.take wd.toNat) by simp [getNum, he])
      rw [he]
      obtain ⟨d, rfl⟩ := Int.eq_ofNat_of_zero_le (show 0 ≤ wd by omega)
      rw [Int.toNat_natCast] at hg
      have hdl : d ≤ l.length := by omega
      have htl := Lib.hid (show (l.take d).length = d by rw [List.length_take]; omega)
      have HTL := Lib.hid (fun c (hc : c ∈ l.take d) => HL.out c (List.mem_of_mem_take hc))
      have h5 : (d : Int) ≤ (l.length : Int) := by omega
      clear he h1
      go_enter Tryd.func24, Tryd.ntmps24
      go_wp2
      go_loop [6, 7] (fun v i => ∃ k : Nat, k ≤ d ∧ i = .int .i64 ((k : Int) - 1) ∧ v = .int .u64 (number ((l.take d).drop k) : Nat)) (fun _ i => (intOf i + 1).toNat)
      case atStart => exact ⟨d, Nat.le_refl _, rfl, by have := htl.out; rw [List.drop_of_length_le (by omega)]; rfl⟩
      case round =>
        obtain ⟨k, hk, rfl, rfl⟩ := hrel
        cases k with
        | zero =>
          rw [show (((0 : Nat) : Int) - 1) = -1 from rfl]
          go_wp2
          go_ret2
          rw [hg.out]
          exact ⟨rfl, rfl⟩
        | succ j =>
          rw [show (((j + 1 : Nat) : Int) - 1) = (j : Int) from by omega]
          have hj : j < (l.take d).length := by have := htl.out; omega
          obtain ⟨ad, rfl, hb, hc⟩ := HR.out.byte (show j < l.length by omega)
          have hlt := getD_lt HL.out j
          have hgd : (l.take d).getD j 0 = l.getD j 0 := by
            rw [List.getD_eq_getElem?_getD, List.getD_eq_getElem?_getD, List.getElem?_take_of_lt (by omega)]
          have HST := Lib.hid (number_drop hj)
          rw [hgd] at HST
          have hnum : number ((l.take d).drop (j + 1)) < 256 ^ 7 := Nat.lt_of_lt_of_le (number_lt _ (drop_lt HTL.out _)) (Nat.pow_le_pow_right (by decide) (by rw [List.length_drop]; have := htl.out; omega))
          have hnum2 : number ((l.take d).drop (j + 1)) < 72057594037927936 := hnum
          clear hj hnum hgd
          generalize number ((l.take d).drop (j + 1)) = v at *
          generalize l.getD j 0 = c at *
          have hor := or_low v c hnum2 hlt
          have HOR := Lib.hid hor
          clear hor
          go_wp2
          go_round
          case rel => exact ⟨j, by omega, rfl, by rw [HST.out, HOR.out]⟩
          case measure => simp [intOf]
end Go.Proofs.YtbgnjjbmidkhlaaDoor
