/- Parts, one behind the other: LiftQ OpQ De0 De1 De2 De3 Df1 Df2 Df3 OpP Bx1 De4 Df4 Df5. -/
import Derived.Test.YtldjbbcfbjpfcaaDoorZ03
import Derived.Test.YtldjbbcfbjpfcaaDoorRows
import Derived.LaidMore
import Derived.Lib.LaidTab
import Derived.MakeChecks
import Derived.Stop.Joined
import Derived.WalkLawsBesides
import Derived.BigQuiet
import Derived.Great.BuildSlice
import Derived.DataElems
import Derived.IntWalk
/- From a law's walk to the law's row, where the row lists the quarters' table. -/
namespace Go.Proofs.YtldjbbcfbjpfcaaDoor
set_option maxRecDepth 100000
open Go.ChangeShapes Go.WideShapes Go.ChangeAt Go.RowKit
theorem cells_of_tab2 {H : Type} {enc : TypeId × Value → H} {P : Program} {w : World} {base : Nat} {sp : Nat → Bool} {held : Bool} {fuel : Nat} {t t2 e : TypeId} {n m : Nat} {k : IntKind} {cs : List Value} {zss : List (List Int)} {p : List MemPlace}
    (ht : P.underlying t = some (.array n t2)) (ht2 : P.underlying t2 = some (.array m e)) (he : P.underlying e = some (.int k)) (hce : P.cellsOf e = 1) (hct2 : P.cellsOf t2 = m)
    (h : DataW.trod enc P w base sp held fuel t cs = some (.agg (zss.map (Lib.tabData k)), p)) (i : Nat) (hi : i < n) : (cs.drop (i * m)).take m = (zss.getD i []).map fun z => Value.int k z := by
  cases fuel with
  | zero => simp [DataW.trod] at h
  | succ fuel =>
    simp only [DataW.trod, ht, hct2] at h
    split at h
    · rename_i hl
      obtain ⟨xs, hm, hx⟩ := Option.map_eq_some_iff.1 h
      have hxs : xs.map (·.1) = zss.map (Lib.tabData (H := H) k) := by
        have := congrArg Prod.fst hx
        simpa using this
      obtain ⟨b, hb, hf⟩ := Lib.mapM_at hm i i (by simp [hi])
      have h2 : (xs.map (·.1))[i]? = some b.1 := by simp [hb]
      rw [hxs] at h2
      simp only [List.getElem?_map, Option.map_eq_some_iff] at h2
      obtain ⟨zs, hzs, e1⟩ := h2
      obtain ⟨b1, b2⟩ := b
      simp only at e1
      subst e1
      rw [List.getD_eq_getElem?_getD, hzs]
      exact Lib.cells_of_tab ht2 he hce hct2 hf
    · cases h
def qz : List (List Int) := [[0, 4, 8, 12], [1, 5, 9, 13], [2, 6, 10, 14], [3, 7, 11, 15], [0, 5, 10, 15], [1, 6, 11, 12], [2, 7, 8, 13], [3, 4, 9, 14]]
def laidQ : List (String × DataW Unit) := [("quaestor/chacha.quarters", Rows.laid_quaestor_chacha_quarters)]
theorem laidQ_tab : laidQ = [("quaestor/chacha.quarters", .agg (qz.map (Lib.tabData .i64)))] := rfl
theorem gQuarters : Tryd.prog.globalNamed "quaestor/chacha.quarters" = some 0 := by kernel_rfl
theorem gQuartersT : (Tryd.prog.globals[0]?).map (·.type) = some 100 := by kernel_rfl
theorem cellsI : Tryd.prog.cellsOf 3 = 1 := by kernel_rfl
theorem cells4 : Tryd.prog.cellsOf 99 = 4 := by kernel_rfl
theorem cells84 : Tryd.prog.cellsOf 100 = 32 := by kernel_rfl
theorem door_met (os : Os) (args : Array Value) : laidMetH Tryd.prog laidQ ((World.doorLaid Tryd.prog 400 os).forCall (fun _ _ => 0) ⟨#[], args, []⟩).memory :=
  laidMetH_of_parts3 (fuel := 8) (laidMet_of_run' 8 (by kernel_rfl) (by kernel_rfl)) (by kernel_rfl) (by kernel_rfl)
theorem q_rows : (List.range 8).flatMap (fun i => (qz.getD i []).map fun z => Value.int .i64 z) = qcells.toList := by rfl
theorem rows_of (cs : List Value) (h : ∀ i, i < 8 → (cs.drop (i * 4)).take 4 = (qz.getD i []).map fun z => Value.int .i64 z) : cs.take 32 = qcells.toList := by
  rw [← q_rows]
  have e : ∀ n, n ≤ 8 → cs.take (n * 4) = (List.range n).flatMap (fun i => (qz.getD i []).map fun z => Value.int .i64 z) := by
    intro n
    induction n with
    | zero => intro _; simp
    | succ n ih =>
      intro hn
      rw [List.range_succ, List.flatMap_append, ← ih (by omega), List.flatMap_cons, List.flatMap_nil, List.append_nil, ← h n (by omega), Nat.succ_mul, List.take_add]
  exact e 8 (Nat.le_refl _)
theorem of_laidQ {W : World} (h : laidMetH Tryd.prog laidQ W) : QuartersAt W := by
  rw [MakeChecks.laidMetH_plain _ _ _ (by kernel_rfl), laidQ_tab] at h
  obtain ⟨ps, ⟨g', t', cs, fuel, p, q, hg', ht', hvar, hd, _, _⟩, _⟩ := h
  obtain rfl := Option.some.inj (gQuarters.symm.trans hg')
  obtain rfl := Option.some.inj (gQuartersT.symm.trans ht')
  have h32 := rows_of cs.toList (fun i hi => cells_of_tab2 Tryd.underlying100 Tryd.underlying99 Tryd.underlying3 cellsI cells4 hd i hi)
  have hc : ∀ i v, qcells.toList[i]? = some v → W.cell? ⟨0, 0 + i, none⟩ = some v := fun i v hv => by
    have hi : i < 32 := by
      have h1 := (List.getElem?_eq_some_iff.1 hv).1
      exact h1
    rw [← h32, List.getElem?_take, if_pos hi] at hv
    rw [Nat.zero_add]
    exact (World.var?_cell gQuarters hvar i).trans (by simpa using hv)
  exact ⟨hc, block_lt (hc 0 _ rfl)⟩
theorem liftQ {os : Os} (started : os.Started) {H : Type} {enc : TypeId × Value → H} (f : FuncId) {fn : Func} {s : ChangeSpec} {conds : List PathCond} (hconds : conds = [])
    (noInit : Tryd.checked.prog.inits.idxOf? f = none) (hfn : Tryd.checked.prog.funcs[f]? = some fn) (hs : LawSpec s fn.params.toList.length) (hres : fn.resultTypes = #[4])
    (hts : ∀ t ∈ fn.params.toList, Tryd.prog.readableRec t = true ∧ t < Tryd.prog.types.size)
    (witness : ∃ (w : World) (tape : Tape) (i : Input), w.os = os ∧ (w.forCall tape i).Shaped Tryd.checked.prog ∧ i.vars = [] ∧ Input.okWide Tryd.checked.prog (w.forCall tape i) .any w.heap.size f i ∧
      ((s.pre enc Tryd.checked.prog fn conds false (w.forCall tape i).memory i.args ∧ laidMetH Tryd.prog laidQ (w.forCall tape i).memory) ∧ sizedMet enc Tryd.checked.prog fn (OpenSpec.ofChange s) false (w.forCall tape i).memory i.args) ∧ Assume.holds {} Tryd.checked.prog (lone (Frame.enter Tryd.checked.prog f i.args .normal) [] (w.forCall tape i)))
    (walk : ∀ (W : World) (base : Nat) (args : Array Value) (ds : List (DataW H)) (ps : List MemPlace), QuartersAt W →
      (∀ (j : Nat) t v, fn.params[j]? = some t → args[j]? = some v → Value.okWide Tryd.prog W .any base t v) →
      DataW.TrodAll enc Tryd.prog W 0 (fun _ => true) true fn.params.toList args.toList ds ps → (∀ x ∈ ps, x.block < W.heap.size) → Calls Tryd.prog f args W (Yes W)) :
    ReturnsInHanded {} Tryd.checked os f .any (fun w args => (s.pre enc Tryd.prog fn conds false w args ∧ laidMetH Tryd.prog laidQ w) ∧ sizedMet enc Tryd.prog fn (OpenSpec.ofChange s) false w args) (s.post enc Tryd.prog fn false true false false) := by
  subst hconds
  refine returnsInHanded_of_change_and (C := Tryd.checked) (X := fun w _ => laidMetH Tryd.prog laidQ w) (fun _ _ _ hh h => h.of_heap hh) own started noInit hfn witness ?_
  intro W base args ds gs before hval hW _ _ hL _
  have hW' := hW
  have hlt : ∀ p ∈ before, p.block < W.heap.size := fun p hp => hW.lt p hp
  obtain ⟨p, q, hA, hV, hbef, hfz, hnd⟩ := hW
  rw [hs.1] at hV
  obtain ⟨rfl, rfl⟩ := trodVars_none hV
  rw [List.append_nil] at hbef
  subst hbef
  refine (walk W base args ds _ (of_laidQ hL) hval hA hlt).mono fun e W' ⟨he, bel⟩ => ?_
  subst he
  have hlen := trodAll_length _ _ _ _ hA
  have hfn' := hs.2 H ds hlen
  refine ⟨_, rfl, ?_⟩
  refine ⟨ds, [], before, [], before, [], hW', ?_, ?_, ?_, bel.frame _, fun h => by cases h⟩
  · rw [List.append_nil, hfn', hres]
    exact trodAll_mk1 (shut_bool Tryd.underlying4 _)
  · rw [List.append_nil, hfn']
    exact trodAll_below laidOut bel _ _ _ _ hts hA hlt
  · rw [List.append_nil, hfn', hs.1]; rfl
end Go.Proofs.YtldjbbcfbjpfcaaDoor
/- Keys, nonces that came in by value, opened; handed bytes lie within their room. -/
namespace Go.Proofs.YtldjbbcfbjpfcaaDoor
set_option maxRecDepth 100000
open Go.ChangeShapes Go.WideShapes Go.ChangeAt Go.RowKit
theorem byt_of : ∀ cs : List Value, (∀ i, i < cs.length → ∃ n : Nat, n < 256 ∧ (cs.drop i).take 1 = [.int .u8 (n : Int)]) → ∃ l : List Nat, cs = byt l ∧ ∀ c ∈ l, c < 256
  | [], _ => ⟨[], rfl, by simp⟩
  | u :: cs, h => by
    obtain ⟨n, hn, hu⟩ := h 0 (by simp)
    obtain ⟨l, hl, hs⟩ := byt_of cs (fun i hi => by simpa using h (i + 1) (by simp; omega))
    refine ⟨n :: l, ?_, ?_⟩
    · simp at hu; rw [hu, hl]; rfl
    · intro c hc
      rcases List.mem_cons.1 hc with rfl | hc
      · exact hn
      · exact hs c hc
/-- an array of bytes reads as a list of bytes -/
theorem barr_of {H : Type} {enc : TypeId × Value → H} {W : World} {b fuel T n : Nat} {sp : Nat → Bool} {hd : Bool} {cs : List Value} {x : DataW H × List MemPlace}
    (ht : Tryd.prog.underlying T = some (.array n 5)) (hc : Tryd.prog.cellsOf T = n) (h : DataW.trod enc Tryd.prog W b sp hd fuel T cs = some x) : ∃ l : List Nat, cs = byt l ∧ l.length = n ∧ ∀ c ∈ l, c < 256 := by
  obtain ⟨xs, m, _, _, hlen, hx, hg⟩ := DataW.trod_array ht h
  have h1 : Tryd.prog.cellsOf 5 = 1 := by kernel_rfl
  rw [hc] at hlen
  obtain ⟨l, hl, hs⟩ := byt_of cs (fun i hi => by
    have hgi := hg i (by omega)
    rw [h1, Nat.mul_one] at hgi
    have hxi : xs[i]? = some (xs[i]'(by omega)) := List.getElem?_eq_getElem (by omega)
    rw [hxi] at hgi
    obtain ⟨z, hz, _, wz⟩ := DataW.trod_int Tryd.underlying5 hgi
    have hb := bounds_u8 wz
    exact ⟨z.toNat, by omega, by rw [hz, Int.toNat_of_nonneg hb.1]⟩)
  exact ⟨l, hl, by rw [← byt_len, ← hl]; exact hlen, hs⟩
theorem okWide_array {P : Program} {w : World} {r : Reach} {base n : Nat} {t e : TypeId} {v : Value} (ht : P.underlying t = some (.array n e)) (h : Value.okWide P w r base t v) : ∃ cs, v = .agg cs ∧ cs.size = P.cellsOf t := by
  simp only [Value.okWide, ht] at h
  obtain ⟨cs, h1, h2, _⟩ := h
  exact ⟨cs, h1, h2⟩
theorem open_key {H : Type} {enc : TypeId × Value → H} {W : World} {base : Nat} {v : Value} {d : DataW H} {p : List MemPlace} (hv : Value.okWide Tryd.prog W .any base 42 v)
    (h : DataW.Trod enc Tryd.prog W 0 (fun _ => true) true 42 v d p) : ∃ l : List Nat, v = .agg (vb l) ∧ l.length = 32 ∧ ∀ c ∈ l, c < 256 := by
  obtain ⟨cs, rfl, hsz⟩ := okWide_array Tryd.underlying42 hv
  have hC : Tryd.prog.cellsOf 42 = 32 := by kernel_rfl
  obtain ⟨fuel, hf⟩ := h
  simp only [Value.cells] at hf
  obtain ⟨l, e, hl, hs⟩ := barr_of Tryd.underlying42 hC hf
  exact ⟨l, by congr 1; apply Array.toList_inj.1; rw [e]; simp [vb], hl, hs⟩
theorem open_nonce {H : Type} {enc : TypeId × Value → H} {W : World} {base : Nat} {v : Value} {d : DataW H} {p : List MemPlace} (hv : Value.okWide Tryd.prog W .any base 24 v)
    (h : DataW.Trod enc Tryd.prog W 0 (fun _ => true) true 24 v d p) : ∃ l : List Nat, v = .agg (vb l) ∧ l.length = 12 ∧ ∀ c ∈ l, c < 256 := by
  obtain ⟨cs, rfl, hsz⟩ := okWide_array Tryd.underlying24 hv
  have hC : Tryd.prog.cellsOf 24 = 12 := by kernel_rfl
  obtain ⟨fuel, hf⟩ := h
  simp only [Value.cells] at hf
  obtain ⟨l, e, hl, hs⟩ := barr_of Tryd.underlying24 hC hf
  exact ⟨l, by congr 1; apply Array.toList_inj.1; rw [e]; simp [vb], hl, hs⟩
theorem cap_bytes {H : Type} {enc : TypeId × Value → H} {W : World} {A : Option Addr} {n cap : Nat} {d : DataW H} {p : List MemPlace}
    (h : DataW.Trod enc Tryd.prog W 0 (fun _ => true) true 25 (.slice A n cap) d p) : n ≤ cap := by
  obtain ⟨fuel, hf⟩ := h
  rcases open_ints Tryd.underlying25 Tryd.underlying5 (by kernel_rfl) hf with ⟨hcs, _⟩ | ⟨x, l, c, zs, hcs, _, hl, hm, hz, _, hcell, hwz⟩
  · simp [Value.cells] at hcs
    omega
  · simp [Value.cells] at hcs
    obtain ⟨rfl, rfl, rfl⟩ := hcs
    exact hl
end Go.Proofs.YtldjbbcfbjpfcaaDoor
/- Pieces, as bytes: plain. -/
namespace Go.Proofs.YtldjbbcfbjpfcaaDoor
set_option maxRecDepth 100000
open Go.RowKit
set_option linter.unusedVariables false
set_option linter.unusedSimpArgs false
/-- int64's wrap -/
def w64 (x : Int) : Int := (x + 9223372036854775808) % 18446744073709551616 - 9223372036854775808
theorem w64_lo (x : Int) : -9223372036854775808 ≤ w64 x := by unfold w64; omega
theorem w64_hi (x : Int) : w64 x ≤ 9223372036854775807 := by unfold w64; omega
theorem w64_in (x : Int) (h0 : -9223372036854775808 ≤ x) (h1 : x ≤ 9223372036854775807) : w64 x = x := by unfold w64; omega
theorem w64_add (a b : Int) : w64 (w64 a + b) = w64 (a + b) := by unfold w64; omega
theorem w64_add' (a b : Int) : w64 (a + w64 b) = w64 (a + b) := by unfold w64; omega
theorem w64_sub (a b : Int) : w64 (w64 a - b) = w64 (a - b) := by unfold w64; omega
theorem w64_sub' (a b : Int) : w64 (a - w64 b) = w64 (a - b) := by unfold w64; omega
structure Pc where
  s : ByteArray
  t : Int
  v : Int
  n : Nat
  d : Nat
structure PcOk (p : Pc) : Prop where
  t0 : -9223372036854775808 ≤ p.t
  t1 : p.t ≤ 9223372036854775807
  v0 : -9223372036854775808 ≤ p.v
  v1 : p.v ≤ 9223372036854775807
  n1 : p.n < 18446744073709551616
  d1 : p.d < 65536
/-- a text's bytes -/
def sby (s : ByteArray) : List Nat := s.toList.map (·.toNat)
theorem sby_lt (s : ByteArray) : ∀ c ∈ sby s, c < 256 := fun c h => by
  obtain ⟨u, _, rfl⟩ := List.mem_map.1 h
  exact u.toNat_lt
/-- the short form -/
def sh (n : Nat) : List Nat := if h : n < 128 then [n] else (n % 128 + 128) :: sh (n / 128)
termination_by n
decreasing_by omega
theorem sh_lt (n : Nat) : ∀ c ∈ sh n, c < 256 := by
  induction n using Nat.strongRecOn with
  | ind n ih =>
    intro c hc
    rw [sh] at hc
    split at hc
    · simp at hc; omega
    · rcases List.mem_cons.1 hc with rfl | h
      · omega
      · exact ih (n / 128) (by omega) c h
def zig (n : Int) : Nat := if 0 ≤ n then (2 * n).toNat else (-2 * n - 1).toNat
def zag (n : Nat) : Int := if n % 2 = 0 then ((n / 2 : Nat) : Int) else -((n / 2 : Nat) : Int) - 1
theorem zag_zig (n : Int) : zag (zig n) = n := by unfold zig zag; split <;> split <;> omega
theorem zig_lt (n : Int) (h0 : -9223372036854775808 ≤ n) (h1 : n ≤ 9223372036854775807) : zig n < 18446744073709551616 := by unfold zig; split <;> omega
/-- the rows of a series -/
def rowsL (t step v : Int) : List Pc → List Nat
  | [] => []
  | p :: l => sh (zig (w64 (w64 (p.t - t) - step))) ++ sh (zig (w64 (p.v - v))) ++ sh p.n ++ form p.d 2 ++ rowsL p.t (w64 (p.t - t)) p.v l
/-- how many pieces are of the first one's series -/
def run1 (s : ByteArray) : List Pc → Nat
  | [] => 0
  | p :: l => if p.s = s then run1 s l + 1 else 0
theorem run1_le (s : ByteArray) : ∀ l : List Pc, run1 s l ≤ l.length
  | [] => Nat.le_refl _
  | p :: l => by
    unfold run1
    split
    · have := run1_le s l; simp; omega
    · omega
/-- a series' pieces, laid -/
def putL (g : List Pc) : List Nat :=
  match g with
  | [] => []
  | p :: _ => sh p.s.size ++ sby p.s ++ sh g.length ++ rowsL 0 0 0 g
/-- the lengths of the groups -/
def gls : List Pc → List Nat
  | [] => []
  | p :: l => (run1 p.s l + 1) :: gls (l.drop (run1 p.s l))
termination_by l => l.length
decreasing_by simp; omega
theorem gls_cons (p : Pc) (l : List Pc) : gls (p :: l) = (run1 p.s l + 1) :: gls (l.drop (run1 p.s l)) := by rw [gls]
theorem gls_nil : gls [] = [] := by rw [gls]
/-- the groups themselves -/
def cutsL : List Nat → List Pc → List (List Pc)
  | [], _ => []
  | n :: ns, l => l.take n :: cutsL ns (l.drop n)
def grps (l : List Pc) : List (List Pc) := cutsL (gls l) l
def formP (l : List Pc) : List Nat := sh (grps l).length ++ ((grps l).map putL).flatten
def roomG : List (List Pc) → Nat
  | [] => 0
  | g :: gs => (match g with | [] => 0 | p :: _ => 6 + p.s.size) + roomG gs
def roomL (l : List Pc) : Nat := 4 + 32 * l.length + roomG (grps l)
end Go.Proofs.YtldjbbcfbjpfcaaDoor
/- Pieces, read: plain. -/
namespace Go.Proofs.YtldjbbcfbjpfcaaDoor
set_option maxRecDepth 100000
open Go.RowKit
set_option linter.unusedVariables false
set_option linter.unusedSimpArgs false
/-- a short form, read: the number, how many bytes, the error -/
def gsF (i acc : Nat) : List Nat → Nat × Nat × Nat
  | [] => (0, 0, 2)
  | c :: b => if i = 9 ∧ 1 < c then (0, 0, 4) else if 128 ≤ c then gsF (i + 1) (acc + c % 128 * 128 ^ i) b else if c = 0 ∧ 0 < i then (0, 0, 4) else (acc + c % 128 * 128 ^ i, i + 1, 0)
theorem gsF_used (b : List Nat) : ∀ i acc, (gsF i acc b).2.1 ≤ i + b.length := by
  induction b with
  | nil => intro i acc; simp [gsF]
  | cons c b ih =>
    intro i acc
    rw [gsF]
    split
    · simp
    · split
      · have := ih (i + 1) (acc + c % 128 * 128 ^ i)
        rw [List.length_cons]
        omega
      · split
        · exact Nat.zero_le _
        · rw [List.length_cons]
          show i + 1 ≤ _
          omega
/-- without an error at least one byte is read -/
theorem gsF_pos (b : List Nat) : ∀ i acc, (gsF i acc b).2.2 = 0 → i + 1 ≤ (gsF i acc b).2.1 := by
  induction b with
  | nil => intro i acc h; simp [gsF] at h
  | cons c b ih =>
    intro i acc h
    rw [gsF] at h ⊢
    split
    · rename_i h1; rw [if_pos h1] at h; simp at h
    · rename_i h1; rw [if_neg h1] at h
      split
      · rename_i h2; rw [if_pos h2] at h; have := ih _ _ h; omega
      · rename_i h2; rw [if_neg h2] at h
        split
        · rename_i h3; rw [if_pos h3] at h; simp at h
        · exact Nat.le_refl _
theorem gsF_err (b : List Nat) : ∀ i acc, (gsF i acc b).2.2 ≤ 4 := by
  induction b with
  | nil => intro i acc; simp [gsF]
  | cons c b ih =>
    intro i acc
    rw [gsF]
    split
    · simp
    · split
      · exact ih _ _
      · split <;> simp
theorem gsF_lt (b : List Nat) (hb : ∀ c ∈ b, c < 256) : ∀ i acc, i ≤ 9 → acc < 128 ^ i → (gsF i acc b).1 < 18446744073709551616 := by
  induction b with
  | nil => intro i acc _ _; simp [gsF]
  | cons c b ih =>
    intro i acc hi ha
    have hc := hb c (by simp)
    rw [gsF]
    split
    · simp
    · rename_i h1
      split
      · rename_i h2
        have hi9 : i < 9 := by
          rcases Nat.lt_or_ge i 9 with h | h
          · exact h
          · exact absurd ⟨by omega, by omega⟩ h1
        refine ih (fun c h => hb c (by simp [h])) _ _ (by omega) ?_
        have h3 : c % 128 < 128 := Nat.mod_lt _ (by decide)
        have h4 : (c % 128 + 1) * 128 ^ i ≤ 128 * 128 ^ i := Nat.mul_le_mul_right _ h3
        rw [Nat.add_mul, Nat.one_mul] at h4
        rw [Nat.pow_succ, Nat.mul_comm (128 ^ i)]
        omega
      · rename_i h2
        split
        · simp
        · have h3 : c % 128 = c := by omega
          rw [h3]
          rcases Nat.lt_or_ge i 9 with h | h
          · have h4 : (c + 1) * 128 ^ i ≤ 128 * 128 ^ i := Nat.mul_le_mul_right _ (by omega)
            rw [Nat.add_mul, Nat.one_mul] at h4
            have h5 : 128 * 128 ^ i ≤ 128 * 128 ^ 8 := Nat.mul_le_mul_left _ (Nat.pow_le_pow_right (by decide) (by omega))
            simp only
            omega
          · have : i = 9 := by omega
            subst this
            have hc1 : c ≤ 1 := by
              rcases Nat.lt_or_ge 1 c with h | h
              · exact absurd ⟨rfl, h⟩ h1
              · exact h
            have h4 : c * 128 ^ 9 ≤ 1 * 128 ^ 9 := Nat.mul_le_mul_right _ hc1
            simp only
            omega
theorem gsF_sh (n : Nat) : ∀ i acc rest, n * 128 ^ i < 18446744073709551616 → (n = 0 → i = 0) → gsF i acc (sh n ++ rest) = (acc + n * 128 ^ i, i + (sh n).length, 0) := by
  induction n using Nat.strongRecOn with
  | ind n ih =>
    intro i acc rest h h0
    rw [sh]
    split
    · rename_i hlt
      rw [List.cons_append, List.nil_append, gsF]
      have h9 : ¬ (i = 9 ∧ 1 < n) := by
        rintro ⟨rfl, h1⟩
        have : 2 * 128 ^ 9 ≤ n * 128 ^ 9 := Nat.mul_le_mul_right _ h1
        omega
      rw [if_neg h9, if_neg (by omega), if_neg (by omega), Nat.mod_eq_of_lt hlt]
      rfl
    · rename_i hge
      rw [List.cons_append, gsF]
      have hi : i ≤ 8 := by
        rcases Nat.lt_or_ge 8 i with h1 | h1
        · have h2 : 128 * 128 ^ 9 ≤ n * 128 ^ i := Nat.mul_le_mul (by omega) (Nat.pow_le_pow_right (by decide) h1)
          omega
        · exact h1
      rw [if_neg (by omega), if_pos (by omega)]
      have e1 : n / 128 * 128 ^ (i + 1) + n % 128 * 128 ^ i = n * 128 ^ i := by
        rw [Nat.pow_succ, Nat.mul_comm (128 ^ i) 128, ← Nat.mul_assoc, ← Nat.add_mul]
        congr 1
        omega
      rw [ih (n / 128) (by omega) (i + 1) _ rest (by omega) (by omega), show (n % 128 + 128) % 128 = n % 128 by omega]
      simp only [List.length_cons, Prod.mk.injEq, and_true]
      omega
/-- read a number: the number, what is left, whether all was in form -/
def rdS (b : List Nat) (bad : Bool) : Nat × List Nat × Bool := ((gsF 0 0 b).1, b.drop (gsF 0 0 b).2.1, bad || decide ((gsF 0 0 b).2.2 ≠ 0))
def rdB (n : Nat) (b : List Nat) (bad : Bool) : List Nat × List Nat × Bool := if b.length < n then ([], b, true) else (b.take n, b.drop n, bad)
theorem rdS_sh (n : Nat) (rest : List Nat) (h : n < 18446744073709551616) : rdS (sh n ++ rest) false = (n, rest, false) := by
  unfold rdS
  rw [gsF_sh n 0 0 rest (by simpa using h) (fun _ => rfl)]
  simp
theorem rdB_app (l rest : List Nat) (bad : Bool) : rdB l.length (l ++ rest) bad = (l, rest, bad) := by
  unfold rdB
  rw [if_neg (by simp)]
  simp
def rpL (s : ByteArray) : Nat → List Nat → Bool → Int → Int → Int → List Pc → List Pc × List Nat × Bool
  | 0, b, bad, t, step, v, acc => (acc, b, bad)
  | i + 1, b, bad, t, step, v, acc =>
    if (rdB 2 (rdS (rdS (rdS b bad).2.1 (rdS b bad).2.2).2.1 (rdS (rdS b bad).2.1 (rdS b bad).2.2).2.2).2.1 (rdS (rdS (rdS b bad).2.1 (rdS b bad).2.2).2.1 (rdS (rdS b bad).2.1 (rdS b bad).2.2).2.2).2.2).2.2 then
      (acc, (rdB 2 (rdS (rdS (rdS b bad).2.1 (rdS b bad).2.2).2.1 (rdS (rdS b bad).2.1 (rdS b bad).2.2).2.2).2.1 (rdS (rdS (rdS b bad).2.1 (rdS b bad).2.2).2.1 (rdS (rdS b bad).2.1 (rdS b bad).2.2).2.2).2.2).2.1, true)
    else
      rpL s i (rdB 2 (rdS (rdS (rdS b bad).2.1 (rdS b bad).2.2).2.1 (rdS (rdS b bad).2.1 (rdS b bad).2.2).2.2).2.1 (rdS (rdS (rdS b bad).2.1 (rdS b bad).2.2).2.1 (rdS (rdS b bad).2.1 (rdS b bad).2.2).2.2).2.2).2.1 false
        (w64 (t + w64 (step + zag (rdS b bad).1))) (w64 (step + zag (rdS b bad).1)) (w64 (v + zag (rdS (rdS b bad).2.1 (rdS b bad).2.2).1))
        (acc ++ [⟨s, w64 (t + w64 (step + zag (rdS b bad).1)), w64 (v + zag (rdS (rdS b bad).2.1 (rdS b bad).2.2).1), (rdS (rdS (rdS b bad).2.1 (rdS b bad).2.2).2.1 (rdS (rdS b bad).2.1 (rdS b bad).2.2).2.2).1,
          number (rdB 2 (rdS (rdS (rdS b bad).2.1 (rdS b bad).2.2).2.1 (rdS (rdS b bad).2.1 (rdS b bad).2.2).2.2).2.1 (rdS (rdS (rdS b bad).2.1 (rdS b bad).2.2).2.1 (rdS (rdS b bad).2.1 (rdS b bad).2.2).2.2).2.2).1⟩])
/-- a round, spelt by its steps -/
theorem rpL_step (s : ByteArray) (i : Nat) (b : List Nat) (bad : Bool) (t step v : Int) (acc : List Pc) {n1 n2 n3 : Nat} {b1 b2 b3 b4 l4 : List Nat} {x1 x2 x3 x4 : Bool}
    (h1 : rdS b bad = (n1, b1, x1)) (h2 : rdS b1 x1 = (n2, b2, x2)) (h3 : rdS b2 x2 = (n3, b3, x3)) (h4 : rdB 2 b3 x3 = (l4, b4, x4)) :
    rpL s (i + 1) b bad t step v acc = if x4 then (acc, b4, true) else rpL s i b4 false (w64 (t + w64 (step + zag n1))) (w64 (step + zag n1)) (w64 (v + zag n2)) (acc ++ [⟨s, w64 (t + w64 (step + zag n1)), w64 (v + zag n2), n3, number l4⟩]) := by
  rw [rpL]
  simp only [h1, h2, h3, h4]
def rsL (b : List Nat) (bad : Bool) : List Pc × List Nat × Bool :=
  rpL ⟨((rdB (rdS b bad).1 (rdS b bad).2.1 (rdS b bad).2.2).1.map UInt8.ofNat).toArray⟩ (rdS (rdB (rdS b bad).1 (rdS b bad).2.1 (rdS b bad).2.2).2.1 (rdB (rdS b bad).1 (rdS b bad).2.1 (rdS b bad).2.2).2.2).1
    (rdS (rdB (rdS b bad).1 (rdS b bad).2.1 (rdS b bad).2.2).2.1 (rdB (rdS b bad).1 (rdS b bad).2.1 (rdS b bad).2.2).2.2).2.1 (rdS (rdB (rdS b bad).1 (rdS b bad).2.1 (rdS b bad).2.2).2.1 (rdB (rdS b bad).1 (rdS b bad).2.1 (rdS b bad).2.2).2.2).2.2 0 0 0 []
theorem rsL_eq (b : List Nat) (bad : Bool) {n1 n3 : Nat} {b1 b2 b3 l2 : List Nat} {x1 x2 x3 : Bool} (h1 : rdS b bad = (n1, b1, x1)) (h2 : rdB n1 b1 x1 = (l2, b2, x2)) (h3 : rdS b2 x2 = (n3, b3, x3)) :
    rsL b bad = rpL ⟨(l2.map UInt8.ofNat).toArray⟩ n3 b3 x3 0 0 0 [] := by
  unfold rsL
  simp only [h1, h2, h3]
def rgL : Nat → List Nat → Bool → List Pc → List Pc × Bool
  | 0, b, bad, acc => (acc, bad)
  | i + 1, b, bad, acc => if (rsL b bad).2.2 then (acc ++ (rsL b bad).1, true) else rgL i (rsL b bad).2.1 false (acc ++ (rsL b bad).1)
theorem rpL_rows (s : ByteArray) (g : List Pc) : ∀ (t step v : Int) (acc : List Pc) (rest : List Nat), (∀ p ∈ g, PcOk p ∧ p.s = s) → -9223372036854775808 ≤ t → t ≤ 9223372036854775807 → -9223372036854775808 ≤ v → v ≤ 9223372036854775807 →
    rpL s g.length (rowsL t step v g ++ rest) false t step v acc = (acc ++ g, rest, false) := by
  induction g with
  | nil => intro t step v acc rest _ _ _ _ _; simp [rpL, rowsL]
  | cons p g ih =>
    intro t step v acc rest h t0 t1 v0 v1
    obtain ⟨hp, hs⟩ := h p (by simp)
    have hz1 := zig_lt (w64 (w64 (p.t - t) - step)) (w64_lo _) (w64_hi _)
    have hz2 := zig_lt (w64 (p.v - v)) (w64_lo _) (w64_hi _)
    rw [List.length_cons, rowsL]
    simp only [List.append_assoc]
    have h4 := rdB_app (form p.d 2) (rowsL p.t (w64 (p.t - t)) p.v g ++ rest) false
    rw [form_len] at h4
    rw [rpL_step s g.length _ false t step v acc (rdS_sh _ _ hz1) (rdS_sh _ _ hz2) (rdS_sh _ _ hp.n1) h4]
    simp only [zag_zig, Bool.false_eq_true, if_false]
    rw [number_form p.d 2 hp.d1]
    have e1 : w64 (step + w64 (w64 (p.t - t) - step)) = w64 (p.t - t) := by unfold w64; omega
    have e2 : w64 (t + w64 (p.t - t)) = p.t := by have := hp.t0; have := hp.t1; unfold w64; omega
    have e3 : w64 (v + w64 (p.v - v)) = p.v := by have := hp.v0; have := hp.v1; unfold w64; omega
    rw [e1, e2, e3, ih p.t (w64 (p.t - t)) p.v _ rest (fun q hq => h q (by simp [hq])) hp.t0 hp.t1 hp.v0 hp.v1]
    have e4 : (⟨s, p.t, p.v, p.n, p.d⟩ : Pc) = p := by rw [← hs]
    rw [e4, List.append_assoc]
    rfl
theorem sby_back (s : ByteArray) : (⟨((sby s).map UInt8.ofNat).toArray⟩ : ByteArray) = s := by
  have e : (sby s).map UInt8.ofNat = s.toList := by
    unfold sby
    rw [List.map_map]
    conv => rhs; rw [← List.map_id s.toList]
    apply List.map_congr_left
    intro a _
    simp
  rw [e]
  cases s with
  | mk d => rw [ByteArray.toList_mk]
end Go.Proofs.YtldjbbcfbjpfcaaDoor
/- Pieces: what is laid is read as it was; how long it is: plain. -/
namespace Go.Proofs.YtldjbbcfbjpfcaaDoor
set_option maxRecDepth 100000
open Go.RowKit
set_option linter.unusedVariables false
set_option linter.unusedSimpArgs false
theorem run1_all (s : ByteArray) : ∀ (l : List Pc), ∀ q ∈ l.take (run1 s l), q.s = s
  | [], q, h => by simp at h
  | p :: l, q, h => by
    unfold run1 at h
    split at h
    · rename_i he
      rw [List.take_succ_cons] at h
      rcases List.mem_cons.1 h with rfl | h
      · exact he
      · exact run1_all s l q h
    · simp at h
theorem grps_nil : grps [] = [] := by unfold grps; rw [gls_nil]; rfl
theorem grps_cons (p : Pc) (l : List Pc) : grps (p :: l) = (p :: l.take (run1 p.s l)) :: grps (l.drop (run1 p.s l)) := by
  unfold grps
  rw [gls_cons]
  rfl
theorem drop_lt_len (s : ByteArray) (l : List Pc) (m : Nat) (h : l.length ≤ m) : (l.drop (run1 s l)).length ≤ m := by rw [List.length_drop]; omega
theorem grps_ind {Q : List Pc → Prop} (h0 : Q []) (h1 : ∀ p l, Q (l.drop (run1 p.s l)) → Q (p :: l)) : ∀ l, Q l := by
  suffices H : ∀ m, ∀ l : List Pc, l.length ≤ m → Q l from fun l => H _ l (Nat.le_refl _)
  intro m
  induction m with
  | zero => intro l hl; rw [List.eq_nil_of_length_eq_zero (by omega : l.length = 0)]; exact h0
  | succ m ih =>
    intro l hl
    cases l with
    | nil => exact h0
    | cons p l => exact h1 p l (ih _ (drop_lt_len _ _ _ (by simpa using hl)))
theorem grps_flat : ∀ l, (grps l).flatten = l := grps_ind (by rw [grps_nil]; rfl) fun p l ih => by
  rw [grps_cons, List.flatten_cons, ih, List.cons_append, List.take_append_drop]
theorem len_flat {gs : List (List Pc)} {g : List Pc} (h : g ∈ gs) : g.length ≤ gs.flatten.length := by
  induction gs with
  | nil => cases h
  | cons a gs ih =>
    rw [List.flatten_cons, List.length_append]
    rcases List.mem_cons.1 h with rfl | h
    · omega
    · have := ih h; omega
/-- a series' pieces -/
def OneSer (g : List Pc) : Prop := ∃ p g', g = p :: g' ∧ ∀ q ∈ g, q.s = p.s
theorem grps_one : ∀ l, ∀ g ∈ grps l, OneSer g := grps_ind (fun g h => by rw [grps_nil] at h; cases h) fun p l ih g h => by
  rw [grps_cons] at h
  rcases List.mem_cons.1 h with rfl | h
  · refine ⟨p, _, rfl, fun q hq => ?_⟩
    rcases List.mem_cons.1 hq with rfl | hq
    · rfl
    · exact run1_all _ _ q hq
  · exact ih g h
theorem grps_mem (l : List Pc) (g : List Pc) (h : g ∈ grps l) : ∀ q ∈ g, q ∈ l := fun q hq => by
  rw [← grps_flat l]
  exact List.mem_flatten.2 ⟨g, h, hq⟩
theorem rsL_put (g : List Pc) (rest : List Nat) (h1 : OneSer g) (hk : ∀ p ∈ g, PcOk p ∧ p.s.size < 1000000) (hn : g.length < 1000000) : rsL (putL g ++ rest) false = (g, rest, false) := by
  obtain ⟨p, g', rfl, hs⟩ := h1
  have hp := (hk p (by simp)).2
  unfold putL
  simp only [List.append_assoc]
  have h2 := rdB_app (sby p.s) (sh (p :: g').length ++ (rowsL 0 0 0 (p :: g') ++ rest)) false
  have hl : (sby p.s).length = p.s.size := by unfold sby; rw [List.length_map]; cases p.s with | mk d => rw [ByteArray.toList_mk]; rfl
  rw [hl] at h2
  rw [rsL_eq _ _ (rdS_sh _ _ (by omega)) h2 (rdS_sh _ _ (by omega)), sby_back, rpL_rows p.s (p :: g') 0 0 0 [] rest (fun q hq => ⟨(hk q hq).1, hs q hq⟩) (by decide) (by decide) (by decide) (by decide)]
  rfl
theorem rgL_put (gs : List (List Pc)) : ∀ (acc : List Pc) (rest : List Nat), (∀ g ∈ gs, OneSer g ∧ g.length < 1000000 ∧ ∀ p ∈ g, PcOk p ∧ p.s.size < 1000000) →
    rgL gs.length ((gs.map putL).flatten ++ rest) false acc = (acc ++ gs.flatten, false) := by
  induction gs with
  | nil => intro acc rest _; simp [rgL]
  | cons g gs ih =>
    intro acc rest h
    obtain ⟨h1, h2, h3⟩ := h g (by simp)
    rw [List.length_cons, rgL, List.map_cons, List.flatten_cons, List.append_assoc, rsL_put g _ h1 h3 h2]
    simp only [Bool.false_eq_true, if_false]
    rw [ih _ _ (fun g hg => h g (by simp [hg])), List.flatten_cons, List.append_assoc]
/-- what is laid is read as it was -/
theorem read_form (l : List Pc) (h : ∀ p ∈ l, PcOk p ∧ p.s.size < 1000000) (hl : l.length < 1000000) : rgL (rdS (formP l) false).1 (rdS (formP l) false).2.1 (rdS (formP l) false).2.2 [] = (l, false) := by
  have hgn : ∀ l : List Pc, (grps l).length ≤ l.length := grps_ind (by rw [grps_nil]; exact Nat.le_refl _) fun p l ih => by
    rw [grps_cons, List.length_cons, List.length_cons]
    rw [List.length_drop] at ih
    omega
  have hn := hgn l
  unfold formP
  rw [rdS_sh _ _ (by omega)]
  have := rgL_put (grps l) [] [] (fun g hg => ⟨grps_one l g hg, by
    have hm : g.length ≤ (grps l).flatten.length := by
      exact len_flat hg
    rw [grps_flat] at hm
    omega, fun p hp => h p (grps_mem l g hg p hp)⟩)
  rw [List.append_nil, grps_flat, List.nil_append] at this
  exact this
/-- how long a short form is -/
theorem sh_len (n k : Nat) (h : n < 128 ^ (k + 1)) : (sh n).length ≤ k + 1 := by
  induction k generalizing n with
  | zero =>
    rw [sh, dif_pos (by simpa using h)]
    exact Nat.le_refl _
  | succ k ih =>
    rw [sh]
    split
    · simp
    · rw [List.length_cons]
      have := ih (n / 128) (by rw [Nat.div_lt_iff_lt_mul (by decide), ← Nat.pow_succ]; exact h)
      omega
theorem sh_pos (n : Nat) : 1 ≤ (sh n).length := by
  rw [sh]; split <;> simp
theorem sh64 (n : Nat) (h : n < 18446744073709551616) : (sh n).length ≤ 10 := sh_len n 9 (Nat.lt_of_lt_of_le h (by decide))
theorem rowsL_len (g : List Pc) : ∀ t step v, (∀ p ∈ g, PcOk p) → (rowsL t step v g).length ≤ 32 * g.length := by
  induction g with
  | nil => intro t step v _; simp [rowsL]
  | cons p g ih =>
    intro t step v h
    have hp := h p (by simp)
    have h1 := sh64 _ (zig_lt (w64 (w64 (p.t - t) - step)) (w64_lo _) (w64_hi _))
    have h2 := sh64 _ (zig_lt (w64 (p.v - v)) (w64_lo _) (w64_hi _))
    have h3 := sh64 _ hp.n1
    have h4 := ih p.t (w64 (p.t - t)) p.v (fun q hq => h q (by simp [hq]))
    rw [rowsL]
    simp only [List.length_append, form_len, List.length_cons]
    omega
theorem sby_len (s : ByteArray) : (sby s).length = s.size := by
  unfold sby; rw [List.length_map]; cases s with | mk d => rw [ByteArray.toList_mk]; rfl
theorem putG_len (gs : List (List Pc)) : (∀ g ∈ gs, OneSer g ∧ g.length < 16384 ∧ ∀ p ∈ g, PcOk p ∧ p.s.size < 16384) → ((gs.map putL).flatten).length ≤ roomG gs + 32 * gs.flatten.length := by
  induction gs with
  | nil => intro _; simp [roomG]
  | cons g gs ih =>
    intro h
    obtain ⟨⟨p, g', rfl, hs⟩, h2, h3⟩ := h g (by simp)
    have h4 := ih (fun g hg => h g (by simp [hg]))
    have h5 := sh_len p.s.size 1 (by have := (h3 p (by simp)).2; simpa using this)
    have h6 := sh_len (p :: g').length 1 (by simpa using h2)
    have h7 := rowsL_len (p :: g') 0 0 0 (fun q hq => (h3 q hq).1)
    rw [List.map_cons, List.flatten_cons, List.length_append, List.flatten_cons, List.length_append, roomG, putL]
    simp only [List.length_append, sby_len]
    omega
theorem form_fits (l : List Pc) (h : ∀ p ∈ l, PcOk p ∧ p.s.size < 16384) (hl : l.length < 16384) : (formP l).length + 2 ≤ roomL l := by
  have hgn : ∀ l : List Pc, (grps l).length ≤ l.length := grps_ind (by rw [grps_nil]; exact Nat.le_refl _) fun p l ih => by
    rw [grps_cons, List.length_cons, List.length_cons]
    rw [List.length_drop] at ih
    omega
  have hn := hgn l
  have h1 := sh_len (grps l).length 1 (by have : (128 : Nat) ^ 2 = 16384 := by decide
                                          omega)
  have h2 := putG_len (grps l) (fun g hg => ⟨grps_one l g hg, by
    have hm : g.length ≤ (grps l).flatten.length := by
      exact len_flat hg
    rw [grps_flat] at hm
    omega, fun p hp => h p (grps_mem l g hg p hp)⟩)
  rw [grps_flat] at h2
  unfold formP roomL
  rw [List.length_append]
  omega
end Go.Proofs.YtldjbbcfbjpfcaaDoor
/- Pieces: which may be laid, and how: plain. -/
namespace Go.Proofs.YtldjbbcfbjpfcaaDoor
set_option maxRecDepth 100000
open Go.RowKit
set_option linter.unusedVariables false
set_option linter.unusedSimpArgs false
def pc0 : Pc := ⟨ByteArray.empty, 0, 0, 0, 0⟩
/-- what the heads of the series take -/
def hdL : Option ByteArray → List Pc → Nat
  | _, [] => 0
  | o, p :: l => (if o = some p.s then 0 else 6 + p.s.size) + hdL (some p.s) l
theorem hdL_same (s : ByteArray) : ∀ l : List Pc, hdL (some s) l = hdL none (l.drop (run1 s l))
  | [] => rfl
  | p :: l => by
    unfold run1
    split
    · rename_i he
      subst he
      rw [hdL, if_pos rfl, Nat.zero_add, List.drop_succ_cons]
      exact hdL_same p.s l
    · rename_i hne
      rw [List.drop_zero, hdL, hdL, if_neg (fun h => hne (Option.some.inj h).symm), if_neg (by intro h; cases h)]
theorem room_heads : ∀ l, roomG (grps l) = hdL none l := grps_ind (by rw [grps_nil]; rfl) fun p l ih => by
  rw [grps_cons, roomG, ih, hdL, if_neg (by intro h; cases h), hdL_same]
/-- the series that comes last -/
def lastS : Option ByteArray → List Pc → Option ByteArray
  | o, [] => o
  | _, p :: l => lastS (some p.s) l
theorem lastS_snoc (q : Pc) : ∀ (l : List Pc) (o : Option ByteArray), lastS o (l ++ [q]) = some q.s
  | [], o => rfl
  | p :: l, o => lastS_snoc q l (some p.s)
def hd1 (o : Option ByteArray) (q : Pc) : Nat := if o = some q.s then 0 else 6 + q.s.size
theorem hdL_snoc (q : Pc) : ∀ (l : List Pc) (o : Option ByteArray), hdL o (l ++ [q]) = hdL o l + hd1 (lastS o l) q
  | [], o => by unfold lastS hd1; rw [List.nil_append, hdL, hdL, hdL]; omega
  | p :: l, o => by rw [List.cons_append, hdL, hdL_snoc q l (some p.s), hdL, lastS]; omega
/-- what the first k pieces take -/
def roomTo (l : List Pc) (k : Nat) : Nat := 4 + 32 * k + hdL none (l.take k)
theorem roomTo_zero (l : List Pc) : roomTo l 0 = 4 := by simp [roomTo, hdL]
theorem roomTo_all (l : List Pc) : roomTo l l.length = roomL l := by unfold roomTo roomL; rw [List.take_length, room_heads]
theorem roomTo_succ (l : List Pc) (k : Nat) (h : k < l.length) : roomTo l (k + 1) = roomTo l k + (if k = 0 ∨ (l.getD k pc0).s ≠ (l.getD (k - 1) pc0).s then 6 + (l.getD k pc0).s.size else 0) + 32 := by
  unfold roomTo
  have e : l.take (k + 1) = l.take k ++ [l.getD k pc0] := by
    rw [List.take_succ_eq_append_getElem h]
    simp [List.getD_eq_getElem?_getD, h]
  rw [e, hdL_snoc]
  rcases Nat.eq_zero_or_pos k with h0 | h0
  · subst h0
    rw [List.take_zero]
    unfold lastS hd1
    rw [if_neg (by intro h; cases h), if_pos (.inl rfl)]
    omega
  · obtain ⟨j, rfl⟩ : ∃ j, k = j + 1 := ⟨k - 1, by omega⟩
    have e2 : l.take (j + 1) = l.take j ++ [l.getD j pc0] := by
      rw [List.take_succ_eq_append_getElem (by omega)]
      simp [List.getD_eq_getElem?_getD, show j < l.length by omega]
    have e3 : lastS none (l.take (j + 1)) = some (l.getD j pc0).s := by rw [e2, lastS_snoc]
    rw [e3, show j + 1 - 1 = j from rfl]
    unfold hd1
    by_cases hs : (l.getD j pc0).s = (l.getD (j + 1) pc0).s
    · rw [if_pos (by rw [hs]), if_neg (by rintro (h1 | h1); · omega
                                          · exact h1 hs.symm)]
      omega
    · rw [if_neg (fun h => hs (Option.some.inj h)), if_pos (.inr (fun h1 => hs h1.symm))]
      omega
theorem roomTo_mono (l : List Pc) (k : Nat) : ∀ d, k + d ≤ l.length → roomTo l k ≤ roomTo l (k + d) := by
  intro d
  induction d with
  | zero => intro _; exact Nat.le_refl _
  | succ d ih =>
    intro h
    have h1 := ih (by omega)
    have h2 := roomTo_succ l (k + d) (by omega)
    rw [← Nat.add_assoc, h2]
    omega
/-- texts in order -/
def ltS (a b : ByteArray) : Bool := Op.bytesLess a.toList b.toList
theorem bless_irr : ∀ l : List UInt8, Op.bytesLess l l = false
  | [] => rfl
  | a :: l => by rw [Op.bytesLess, bless_irr l]; simp
theorem bless_tri : ∀ l m : List UInt8, l ≠ m → Op.bytesLess l m = false → Op.bytesLess m l = true
  | [], [], h, _ => absurd rfl h
  | [], b :: m, _, h => by simp [Op.bytesLess] at h
  | a :: l, [], _, _ => rfl
  | a :: l, b :: m, hne, h => by
    rw [Op.bytesLess] at h ⊢
    simp only [Bool.or_eq_false_iff, Bool.and_eq_false_iff, Bool.or_eq_true, Bool.and_eq_true, decide_eq_false_iff_not, decide_eq_true_eq, beq_iff_eq, beq_eq_false_iff_ne] at h ⊢
    obtain ⟨h1, h2⟩ := h
    by_cases hab : a = b
    · subst hab
      right
      refine ⟨rfl, bless_tri l m (fun e => hne (by rw [e])) ?_⟩
      rcases h2 with h2 | h2
      · exact absurd rfl h2
      · exact h2
    · left
      rw [UInt8.lt_iff_toNat_lt] at h1 ⊢
      have : a.toNat ≠ b.toNat := fun e => hab (UInt8.toNat_inj.1 e)
      omega
theorem bless_asym : ∀ l m : List UInt8, Op.bytesLess l m = true → Op.bytesLess m l = false
  | [], [], h => by simp [Op.bytesLess] at h
  | [], b :: m, _ => rfl
  | a :: l, [], h => by simp [Op.bytesLess] at h
  | a :: l, b :: m, h => by
    rw [Op.bytesLess] at h ⊢
    simp only [Bool.or_eq_false_iff, Bool.and_eq_false_iff, Bool.or_eq_true, Bool.and_eq_true, decide_eq_false_iff_not, decide_eq_true_eq, beq_iff_eq, beq_eq_false_iff_ne] at h ⊢
    rcases h with h | ⟨h, h2⟩
    · rw [UInt8.lt_iff_toNat_lt] at h ⊢
      exact ⟨by omega, .inl (fun e => by subst e; omega)⟩
    · subst h
      exact ⟨by rw [UInt8.lt_iff_toNat_lt]; omega, .inr (bless_asym l m h2)⟩
theorem toList_inj {a b : ByteArray} (h : a.toList = b.toList) : a = b := by
  cases a with
  | mk x => cases b with
    | mk y => rw [ByteArray.toList_mk, ByteArray.toList_mk] at h; rw [Array.toList_inj.1 h]
/-- whether one stands before the other in a list -/
def okPair (a b : Pc) : Bool := ltS a.s b.s || (a.s.toList == b.s.toList && decide (a.t < b.t))
def ckP (p : Pc) : Bool := decide (1 ≤ p.s.size) && decide (p.s.size ≤ 200)
def okAt (l : List Pc) (i : Nat) : Bool := ckP (l.getD i pc0) && (decide (i = 0) || okPair (l.getD (i - 1) pc0) (l.getD i pc0))
def okTo (l : List Pc) (k : Nat) : Bool := (List.range k).all (okAt l)
theorem okTo_succ (l : List Pc) (k : Nat) : okTo l (k + 1) = (okTo l k && okAt l k) := by unfold okTo; rw [List.range_succ, List.all_append]; simp
theorem okTo_not (l : List Pc) (k n : Nat) (h : k < n) (hk : okAt l k = false) : okTo l n = false := by
  unfold okTo
  rw [List.all_eq_false]
  exact ⟨k, List.mem_range.2 h, by rw [hk]; decide⟩
def chkL (l : List Pc) : Nat := if 256 < l.length ∨ 4096 < roomL l then 3 else if okTo l l.length then 0 else 1
def layL (l : List Pc) : List Nat := form (formP l).length 2 ++ formP l ++ List.replicate (roomL l - (2 + (formP l).length)) 0
theorem okTo_at {l : List Pc} {k : Nat} (h : okTo l l.length = true) (hk : k < l.length) : okAt l k = true := by
  unfold okTo at h
  exact List.all_eq_true.1 h k (List.mem_range.2 hk)
/-- pieces that may be laid are so long -/
theorem chk_ok {l : List Pc} (h : chkL l = 0) : l.length ≤ 256 ∧ roomL l ≤ 4096 ∧ okTo l l.length = true := by
  unfold chkL at h
  split at h
  · cases h
  · rename_i h1
    split at h
    · rename_i h2; exact ⟨by omega, by omega, h2⟩
    · cases h
theorem chk_sizes {l : List Pc} (h : chkL l = 0) : ∀ p ∈ l, 1 ≤ p.s.size ∧ p.s.size ≤ 200 := fun p hp => by
  obtain ⟨k, hk, rfl⟩ := List.mem_iff_getElem.1 hp
  have h1 := okTo_at (chk_ok h).2.2 hk
  unfold okAt ckP at h1
  rw [List.getD_eq_getElem?_getD, List.getElem?_eq_getElem hk] at h1
  simp only [Option.getD_some, Bool.and_eq_true, decide_eq_true_eq] at h1
  exact h1.1
theorem layL_len {l : List Pc} (h : chkL l = 0) (hl : ∀ p ∈ l, PcOk p) : (layL l).length = roomL l := by
  have h1 := form_fits l (fun p hp => ⟨hl p hp, by have := (chk_sizes h p hp).2; omega⟩) (by have := (chk_ok h).1; omega)
  unfold layL
  simp only [List.length_append, form_len, List.length_replicate]
  omega
/-- what is read -/
def bodyL (b : List Nat) : List Nat := (b.drop 2).take (number (b.take 2))
def shortB (b : List Nat) : Bool := decide (b.length < 2) || decide (b.length < number (b.take 2) + 2)
def readB (b : List Nat) : List Pc × Bool := rgL (rdS (bodyL b) false).1 (rdS (bodyL b) false).2.1 (rdS (bodyL b) false).2.2 []
def readE (b : List Nat) : Nat := if shortB b then 2 else if (readB b).2 then 4 else if chkL (readB b).1 = 0 ∧ layL (readB b).1 = b then 0 else 4
def readL (b : List Nat) : List Pc := if readE b = 0 then (readB b).1 else []
theorem read_lay {l : List Pc} (h : chkL l = 0) (hl : ∀ p ∈ l, PcOk p) : readE (layL l) = 0 ∧ readL (layL l) = l := by
  have hs := chk_sizes h
  have hc := chk_ok h
  have h1 := form_fits l (fun p hp => ⟨hl p hp, by have := (hs p hp).2; omega⟩) (by omega)
  have e1 : (layL l).take 2 = form (formP l).length 2 := by
    unfold layL
    rw [List.append_assoc, List.take_append_of_le_length (by rw [form_len]; exact Nat.le_refl _), List.take_of_length_le (by rw [form_len]; exact Nat.le_refl _)]
  have e2 : number ((layL l).take 2) = (formP l).length := by
    rw [e1, number_form]
    have : (256 : Nat) ^ 2 = 65536 := by decide
    omega
  have e3 : bodyL (layL l) = formP l := by
    unfold bodyL
    rw [e2]
    unfold layL
    rw [List.append_assoc, List.drop_append_of_le_length (by rw [form_len]; exact Nat.le_refl _), List.drop_of_length_le (by rw [form_len]; exact Nat.le_refl _), List.nil_append, List.take_append_of_le_length (Nat.le_refl _), List.take_length]
  have e4 : readB (layL l) = (l, false) := by
    unfold readB
    rw [e3]
    exact read_form l (fun p hp => ⟨hl p hp, by have := (hs p hp).2; omega⟩) (by omega)
  have e5 : shortB (layL l) = false := by
    unfold shortB
    rw [e2, layL_len h hl]
    simp
    omega
  have e6 : readE (layL l) = 0 := by
    unfold readE
    rw [e5, e4]
    simp only [Bool.false_eq_true, if_false]
    rw [if_pos ⟨h, trivial⟩]
  exact ⟨e6, by unfold readL; rw [if_pos e6, e4]⟩
end Go.Proofs.YtldjbbcfbjpfcaaDoor
/- Contracts: comparisons of numbers and texts. -/
namespace Go.Proofs.YtldjbbcfbjpfcaaDoor
set_option maxRecDepth 100000
open Go.RowKit
set_option linter.unusedVariables false
set_option linter.unusedSimpArgs false
def cmpI (x y : Int) : Int := if x < y then -1 else if y < x then 1 else 0
def cmpS (a b : ByteArray) : Int := if ltS a b then -1 else if ltS b a then 1 else 0
theorem nan_i64 (x : Int) (w : World) : Calls Tryd.prog 72 #[.int .i64 x] w fun e w' => e = .returned (.bool false) ∧ w = w' := by
  have t0 : (x != x) = false := by simp
  go_enter Tryd.func72, Tryd.ntmps72
  go_wp2
  go_ret
  exact ⟨rfl, rfl⟩
theorem cmp_i64 (x y : Int) (w : World) : Calls Tryd.prog 63 #[.int .i64 x, .int .i64 y] w fun e w' => e = .returned (.int .i64 (cmpI x y)) ∧ w = w' := by
  unfold cmpI
  by_cases h1 : x < y
  · rw [if_pos h1]
    have d1 : decide (x < y) = true := decide_eq_true h1
    clear h1
    go_enter Tryd.func63, Tryd.ntmps63
    go_wp2_with (go_at_call 72; (refine (nan_i64 _ _).mono ?_); rintro e w' ⟨rfl, rfl⟩)
    go_ret
    exact ⟨rfl, rfl⟩
  · rw [if_neg h1]
    have d1 : decide (x < y) = false := decide_eq_false h1
    by_cases h2 : y < x
    · rw [if_pos h2]
      have d2 : decide (y < x) = true := decide_eq_true h2
      clear h1 h2
      go_enter Tryd.func63, Tryd.ntmps63
      go_wp2_with (go_at_call 72; (refine (nan_i64 _ _).mono ?_); rintro e w' ⟨rfl, rfl⟩)
      go_ret
      exact ⟨rfl, rfl⟩
    · rw [if_neg h2]
      have d2 : decide (y < x) = false := decide_eq_false h2
      clear h1 h2
      go_enter Tryd.func63, Tryd.ntmps63
      go_wp2_with (go_at_call 72; (refine (nan_i64 _ _).mono ?_); rintro e w' ⟨rfl, rfl⟩)
      go_ret
      exact ⟨rfl, rfl⟩
theorem nan_u64 (x : Int) (w : World) : Calls Tryd.prog 76 #[.int .u64 x] w fun e w' => e = .returned (.bool false) ∧ w = w' := by
  have t0 : (x != x) = false := by simp
  go_enter Tryd.func76, Tryd.ntmps76
  go_wp2
  go_ret
  exact ⟨rfl, rfl⟩
theorem cmp_u64 (x y : Int) (w : World) : Calls Tryd.prog 73 #[.int .u64 x, .int .u64 y] w fun e w' => e = .returned (.int .i64 (cmpI x y)) ∧ w = w' := by
  unfold cmpI
  by_cases h1 : x < y
  · rw [if_pos h1]
    have d1 : decide (x < y) = true := decide_eq_true h1
    clear h1
    go_enter Tryd.func73, Tryd.ntmps73
    go_wp2_with (go_at_call 76; (refine (nan_u64 _ _).mono ?_); rintro e w' ⟨rfl, rfl⟩)
    go_ret
    exact ⟨rfl, rfl⟩
  · rw [if_neg h1]
    have d1 : decide (x < y) = false := decide_eq_false h1
    by_cases h2 : y < x
    · rw [if_pos h2]
      have d2 : decide (y < x) = true := decide_eq_true h2
      clear h1 h2
      go_enter Tryd.func73, Tryd.ntmps73
      go_wp2_with (go_at_call 76; (refine (nan_u64 _ _).mono ?_); rintro e w' ⟨rfl, rfl⟩)
      go_ret
      exact ⟨rfl, rfl⟩
    · rw [if_neg h2]
      have d2 : decide (y < x) = false := decide_eq_false h2
      clear h1 h2
      go_enter Tryd.func73, Tryd.ntmps73
      go_wp2_with (go_at_call 76; (refine (nan_u64 _ _).mono ?_); rintro e w' ⟨rfl, rfl⟩)
      go_ret
      exact ⟨rfl, rfl⟩
theorem nan_u16 (x : Int) (w : World) : Calls Tryd.prog 77 #[.int .u16 x] w fun e w' => e = .returned (.bool false) ∧ w = w' := by
  have t0 : (x != x) = false := by simp
  go_enter Tryd.func77, Tryd.ntmps77
  go_wp2
  go_ret
  exact ⟨rfl, rfl⟩
theorem cmp_u16 (x y : Int) (w : World) : Calls Tryd.prog 74 #[.int .u16 x, .int .u16 y] w fun e w' => e = .returned (.int .i64 (cmpI x y)) ∧ w = w' := by
  unfold cmpI
  by_cases h1 : x < y
  · rw [if_pos h1]
    have d1 : decide (x < y) = true := decide_eq_true h1
    clear h1
    go_enter Tryd.func74, Tryd.ntmps74
    go_wp2_with (go_at_call 77; (refine (nan_u16 _ _).mono ?_); rintro e w' ⟨rfl, rfl⟩)
    go_ret
    exact ⟨rfl, rfl⟩
  · rw [if_neg h1]
    have d1 : decide (x < y) = false := decide_eq_false h1
    by_cases h2 : y < x
    · rw [if_pos h2]
      have d2 : decide (y < x) = true := decide_eq_true h2
      clear h1 h2
      go_enter Tryd.func74, Tryd.ntmps74
      go_wp2_with (go_at_call 77; (refine (nan_u16 _ _).mono ?_); rintro e w' ⟨rfl, rfl⟩)
      go_ret
      exact ⟨rfl, rfl⟩
    · rw [if_neg h2]
      have d2 : decide (y < x) = false := decide_eq_false h2
      clear h1 h2
      go_enter Tryd.func74, Tryd.ntmps74
      go_wp2_with (go_at_call 77; (refine (nan_u16 _ _).mono ?_); rintro e w' ⟨rfl, rfl⟩)
      go_ret
      exact ⟨rfl, rfl⟩
theorem nan_s (a : ByteArray) (w : World) : Calls Tryd.prog 71 #[.string a] w fun e w' => e = .returned (.bool false) ∧ w = w' := by
  go_enter Tryd.func71, Tryd.ntmps71
  go_wp2
  go_ret
  exact ⟨by simp, rfl⟩
theorem cmp_s (a b : ByteArray) (w : World) : Calls Tryd.prog 62 #[.string a, .string b] w fun e w' => e = .returned (.int .i64 (cmpS a b)) ∧ w = w' := by
  unfold cmpS ltS
  by_cases h1 : Op.bytesLess a.toList b.toList = true
  · rw [if_pos h1]
    go_enter Tryd.func62, Tryd.ntmps62
    go_wp2_with (go_at_call 71; (refine (nan_s _ _).mono ?_); rintro e w' ⟨rfl, rfl⟩)
    go_ret
    exact ⟨rfl, rfl⟩
  · rw [if_neg h1]
    have h1' : Op.bytesLess a.toList b.toList = false := by simpa using h1
    clear h1
    by_cases h2 : Op.bytesLess b.toList a.toList = true
    · rw [if_pos h2]
      have h3 : (a.toList == b.toList) = false := by
        rw [beq_eq_false_iff_ne]
        intro he
        rw [he, bless_irr] at h2
        cases h2
      go_enter Tryd.func62, Tryd.ntmps62
      go_wp2_with (go_at_call 71; (refine (nan_s _ _).mono ?_); rintro e w' ⟨rfl, rfl⟩)
      go_ret
      exact ⟨rfl, rfl⟩
    · rw [if_neg h2]
      have h3 : (a.toList == b.toList) = true := by
        rw [beq_iff_eq]
        by_cases he : a.toList = b.toList
        · exact he
        · exact absurd (bless_tri _ _ he h1') h2
      clear h2
      go_enter Tryd.func62, Tryd.ntmps62
      go_wp2_with (go_at_call 71; (refine (nan_s _ _).mono ?_); rintro e w' ⟨rfl, rfl⟩)
      go_ret
      exact ⟨rfl, rfl⟩
end Go.Proofs.YtldjbbcfbjpfcaaDoor
/- Contracts: which piece stands ahead. -/
namespace Go.Proofs.YtldjbbcfbjpfcaaDoor
set_option maxRecDepth 100000
open Go.RowKit
set_option linter.unusedVariables false
set_option linter.unusedSimpArgs false
theorem heap2P (w : World) (a b : Obj) : ((((w.alloc a).alloc b))).heap[w.heap.size + 1]? = some b := by
  have h := heap_alloc_new (w.alloc a) b
  have e : (w.alloc a).heap.size = w.heap.size + 1 := by simp
  rw [e] at h
  exact h
def orL : List Int → Int
  | [] => 0
  | x :: l => if x = 0 then orL l else x
def ints (l : List Int) : List Value := l.map fun x => .int .i64 x
def IntsAt (w : World) (g : Nat) (l : List Int) : Prop := Blk w g 3 (ints l).toArray
theorem IntsAt.at_ {w : World} {g : Nat} {l : List Int} (h : IntsAt w g l) (i : Nat) (hi : i < l.length) : w.cell? ⟨g, i, none⟩ = some (.int .i64 (l.getD i 0)) := by
  refine (Blk.cell h i).trans ?_
  simp [ints, List.getD_eq_getElem?_getD, hi]
theorem or_c (g c : Nat) (l : List Int) (w : World) (h : IntsAt w g l) (hl : l.length ≤ 100) :
    Calls Tryd.prog 61 #[.slice (some ⟨g, 0, none⟩) l.length c] w fun e w' => e = .returned (.int .i64 (orL l)) ∧ w = w' := by
  have HH := Lib.hid h
  clear h
  go_enter Tryd.func61, Tryd.ntmps61
  go_wp2
  go_loop [8] (fun i => ∃ k : Nat, k ≤ l.length ∧ i = .int .i64 k ∧ orL l = orL (l.drop k)) (fun i => l.length - (intOf i).toNat)
  case atStart => exact ⟨0, Nat.zero_le _, rfl, rfl⟩
  case round =>
    obtain ⟨k, hk, rfl, hd⟩ := hrel
    have HD := Lib.hid hd
    clear hd
    by_cases hlt : k < l.length
    · have e0 := HH.out.at_ k hlt
      have HDK := Lib.hid (show l.drop k = l.getD k 0 :: l.drop (k + 1) by rw [List.drop_eq_getElem_cons hlt]; simp [List.getD_eq_getElem?_getD, hlt])
      generalize l.getD k 0 = x at *
      have p1 : (k : Int) < (l.length : Int) := by omega
      by_cases hx : x = 0
      · subst hx
        go_wp2
        go_round
        case rel => exact ⟨k + 1, by omega, by go_num, by rw [HD.out, HDK.out]; rfl⟩
        case measure => simp [intOf]; omega
      · have t0 : (x != 0) = true := by rw [bne_iff_ne]; exact hx
        have HX := Lib.hid hx
        clear hx
        go_wp2
        go_ret
        exact ⟨by rw [HD.out, HDK.out, orL, if_neg HX.out]; rfl, rfl⟩
    · obtain rfl : k = l.length := by omega
      go_wp2
      go_ret
      exact ⟨by rw [HD.out, List.drop_length]; rfl, rfl⟩
theorem intInfo : (Tryd.prog.info? 3).map (fun i => (i.zero, i.size, i.bytes)) = some (some (.int .i64 0), 1, 8) := by kernel_rfl
theorem run_ints (w : World) (l : List Int) {o : Oper} {ρ : Operand → Value} (xs : Array (Nat × Operand)) (ho : o.op = .buildSlice 126 l.length xs)
    (hx : (xs.map fun (p : Nat × Operand) => (p.1, ρ p.2)).toList = (((ints l).zipIdx 0).map fun x => (x.2, x.1))) (hlen : l.length ≤ 1000) (hpos : 0 < l.length) :
    (execOp ρ o).run Tryd.prog w = .ok (.value (.slice (some ⟨w.heap.size, 0, none⟩) l.length l.length)) (w.alloc (.cells (ints l).toArray 3)) := by
  obtain ⟨i0, hi, hz0, hz1, hz2⟩ := info_parts intInfo
  have h1 := run_buildSlice (P := Tryd.prog) w 126 3 l.length (xs.map fun (p : Nat × Operand) => (p.1, ρ p.2)) (ints l).toArray i0 _ Tryd.underlying126 hi hz0 (by rw [hz1]; omega) (by rw [hz1]; omega) (by
    rw [hz1]
    refine (congrArg _ hx).trans ?_
    exact (Great.fill_flat (ints l) _ (fun v hv => by
      obtain ⟨p, _, rfl⟩ := List.mem_map.1 hv
      rfl) (by simp [ints])))
  unfold execOp
  simp only [ho, Sem.run_bind, h1, Result.andThen_ok]
  rfl
def IntsV (l : List Int) (u : Value) (W : World) : Prop := ∃ g, u = .slice (some ⟨g, 0, none⟩) l.length l.length ∧ IntsAt W g l
theorem IntsV.next {l : List Int} {u : Value} {W W' : World} (h : IntsV l u W) (hb : Below W.heap.size W W') : IntsV l u W' := by
  obtain ⟨g, e, h⟩ := h
  exact ⟨g, e, Blk.below h hb (Blk.lt h)⟩
theorem IntsV.or_ {l : List Int} {u : Value} {W : World} (h : IntsV l u W) (hl : l.length ≤ 100) : Calls Tryd.prog 61 #[u] W fun e w' => e = .returned (.int .i64 (orL l)) ∧ W = w' := by
  obtain ⟨g, rfl, h⟩ := h
  exact or_c g _ l W h hl
def idV (n d : Nat) : Array Value := #[.int .u64 (n : Int), .int .u16 (d : Int)]
def cmpD (n d n2 d2 : Nat) : Int := orL [cmpI n n2, cmpI d d2]
set_option maxRecDepth 100000 in
set_option maxHeartbeats 4000000 in
theorem ids_c (n d n2 d2 : Nat) (w : World) : Calls Tryd.prog 64 #[.agg (idV n d), .agg (idV n2 d2)] w fun e w' => e = .returned (.int .i64 (cmpD n d n2 d2)) ∧ Below w.heap.size w w' := by
  go_enter Tryd.func64, Tryd.ntmps64
  go_upto_region 1 with (first
    | (refine Go.Great.wpList_boxTo rfl 79 (.tmp 0) rfl (some 2) rfl w.heap.size rfl (idV n d) rfl ?_)
    | (refine Go.Great.wpList_boxTo rfl 79 (.tmp 1) rfl (some 3) rfl (w.heap.size + 1) (by simp) (idV n2 d2) rfl ?_))
  obtain ⟨Z, hZ⟩ : ∃ Z, Z = (w.alloc (Obj.cells (idV n d) 79)).alloc (Obj.cells (idV n2 d2) 79) := ⟨_, rfl⟩
  have H1 := show Blk Z w.heap.size 79 (idV n d) by rw [hZ]; exact (Blk.new w _ _).alloc _
  have H2 := show Blk Z (w.heap.size + 1) 79 (idV n2 d2) by rw [hZ]; exact heap2P w _ _
  have HB := Lib.hid (show Below w.heap.size w Z by rw [hZ]; exact ((Below.refl _ _).alloc (Nat.le_refl _) _).alloc (by simp) _)
  rw [← hZ]
  clear hZ
  have c0 := cell_ext (show Z.cell? ⟨w.heap.size, 0, none⟩ = some (.int .u64 (n : Int)) from (H1.cell 0).trans rfl)
  have c1 := cell_ext (show Z.cell? ⟨w.heap.size, 1, none⟩ = some (.int .u16 (d : Int)) from (H1.cell 1).trans rfl)
  have c2 := cell_ext (show Z.cell? ⟨w.heap.size + 1, 0, none⟩ = some (.int .u64 (n2 : Int)) from (H2.cell 0).trans rfl)
  have c3 := cell_ext (show Z.cell? ⟨w.heap.size + 1, 1, none⟩ = some (.int .u16 (d2 : Int)) from (H2.cell 1).trans rfl)
  clear H1 H2
  refine wp_region_loud Z [15] (fun _ u W => IntsV [cmpI n n2, cmpI d d2] u W) (by kernel_rfl) (by kernel_rfl) (by kernel_rfl) (by kernel_rfl) (fun _ _ _ _ h hb => h.next hb) (Below.refl _ _).drew ?_
  repeat (first
    | (refine wpLoud_call 9 rfl [] (.int .i64 (cmpI n n2)) 73 (fun g => #[.int .u64 (n : Int), .int .u64 (n2 : Int)]) rfl (fun _ _ h => by cases h) rfl (fun g w => by kernel_rfl) (fun g z hg => by
        refine (cmp_u64 _ _ z.wd).mono ?_
        rintro e w' ⟨rfl, rfl⟩
        exact ⟨_, rfl, Below.refl _ _, rfl⟩) _ (by simp only [Act.put, List.setIfInBounds_toArray, List.set_cons_succ, List.set_cons_zero]; rfl) ?_)
    | (refine wpLoud_call 14 rfl [] (.int .i64 (cmpI d d2)) 74 (fun g => #[.int .u16 (d : Int), .int .u16 (d2 : Int)]) rfl (fun _ _ h => by cases h) rfl (fun g w => by kernel_rfl) (fun g z hg => by
        refine (cmp_u16 _ _ z.wd).mono ?_
        rintro e w' ⟨rfl, rfl⟩
        exact ⟨_, rfl, Below.refl _ _, rfl⟩) _ (by simp only [Act.put, List.setIfInBounds_toArray, List.set_cons_succ, List.set_cons_zero]; rfl) ?_)
    | (refine wpLoud_make rfl (fun _ _ h => by cases h) rfl 15 rfl rfl (fun y => ⟨_, _, run_ints y.wd [cmpI n n2, cmpI d d2] #[(0, .tmp 9), (1, .tmp 14)] rfl (by kernel_rfl) (by simp) (by simp), (Below.refl _ _).alloc (Nat.le_refl _) _, ⟨_, rfl, Blk.new _ _ _⟩⟩) _ (by simp only [Act.put, List.setIfInBounds_toArray, List.set_cons_succ, List.set_cons_zero]; rfl) ?_)
    | (refine wpLoud_call 16 rfl [15] (.int .i64 (cmpD n d n2 d2)) 61 (fun g => #[g 15]) rfl (fun _ _ h => by cases h) rfl (fun g w => by kernel_rfl) (fun g z hg => by
        refine ((hg 15 (by simp)).or_ (by simp)).mono ?_
        rintro e w' ⟨rfl, rfl⟩
        exact ⟨_, rfl, Below.refl _ _, rfl⟩) _ (by simp only [Act.put, List.setIfInBounds_toArray, List.set_cons_succ, List.set_cons_zero]; rfl) ?_)
    | (refine wpLoud_plain rfl rfl rfl ?_; intro K hK; go_big_quiet_op; go_big_quiet_on))
  refine wpLoud_end [] (by rfl) ?_
  intro g z hg
  have HBZ := Lib.hid (HB.out.trans (z.bel.mono HB.out.size))
  generalize z.wd = Y2 at *
  simp only [fill, Act.put, List.setIfInBounds_toArray, List.set_cons_succ, List.set_cons_zero]
  go_wp2_with fail
  go_ret
  exact ⟨rfl, HBZ.out⟩
def pcL (p : Pc) : List Value := [.string p.s, .int .i64 p.t, .int .i64 p.v, .int .u64 (p.n : Int), .int .u16 (p.d : Int)]
def pcV (p : Pc) : Array Value := (pcL p).toArray
def cmpP (a b : Pc) : Int := orL [cmpS a.s b.s, cmpI a.t b.t, cmpD a.n a.d b.n b.d]
def lessP (a b : Pc) : Bool := decide (cmpP a b < 0)
theorem idInfo : (Tryd.prog.info? 79).map (·.size) = some 2 := by kernel_rfl
theorem rangeAt_id {w : World} {g : Nat} {p : Pc} (h : Blk w g 81 (pcV p)) : w.rangeAt g 3 (idV p.n p.d).toList := fun i u hu => by
  refine (h.cell (3 + i)).trans ?_
  rw [← hu]
  match i with
  | 0 => rfl
  | 1 => rfl
  | i + 2 =>
    rw [show 3 + (i + 2) = i + 5 by omega]
    rfl
set_option maxRecDepth 100000 in
set_option maxHeartbeats 4000000 in
theorem compare_c (p q : Pc) (w : World) : Calls Tryd.prog 46 #[.agg (pcV p), .agg (pcV q)] w fun e w' => e = .returned (.int .i64 (cmpP p q)) ∧ Below w.heap.size w w' := by
  go_enter Tryd.func46, Tryd.ntmps46
  go_upto_region 1 with (first
    | (refine Go.Great.wpList_boxTo rfl 81 (.tmp 0) rfl (some 2) rfl w.heap.size rfl (pcV p) rfl ?_)
    | (refine Go.Great.wpList_boxTo rfl 81 (.tmp 1) rfl (some 3) rfl (w.heap.size + 1) (by simp) (pcV q) rfl ?_))
  obtain ⟨Z, hZ⟩ : ∃ Z, Z = (w.alloc (Obj.cells (pcV p) 81)).alloc (Obj.cells (pcV q) 81) := ⟨_, rfl⟩
  have h1 := show Blk Z w.heap.size 81 (pcV p) by rw [hZ]; exact (Blk.new w _ _).alloc _
  have h2 := show Blk Z (w.heap.size + 1) 81 (pcV q) by rw [hZ]; exact heap2P w _ _
  have HB := Lib.hid (show Below w.heap.size w Z by rw [hZ]; exact ((Below.refl _ _).alloc (Nat.le_refl _) _).alloc (by simp) _)
  rw [← hZ]
  clear hZ
  have c0 := cell_ext (show Z.cell? ⟨w.heap.size, 0, none⟩ = some (.string p.s) from (h1.cell 0).trans rfl)
  have c1 := cell_ext (show Z.cell? ⟨w.heap.size, 1, none⟩ = some (.int .i64 p.t) from (h1.cell 1).trans rfl)
  have c2 := cell_ext (show Z.cell? ⟨w.heap.size + 1, 0, none⟩ = some (.string q.s) from (h2.cell 0).trans rfl)
  have c3 := cell_ext (show Z.cell? ⟨w.heap.size + 1, 1, none⟩ = some (.int .i64 q.t) from (h2.cell 1).trans rfl)
  have H1 := Lib.hid h1
  have H2 := Lib.hid h2
  have HII := Lib.hid idInfo
  clear h1 h2
  refine wp_region_loud Z [20] (fun _ u W => IntsV [cmpS p.s q.s, cmpI p.t q.t, cmpD p.n p.d q.n q.d] u W) (by kernel_rfl) (by kernel_rfl) (by kernel_rfl) (by kernel_rfl) (fun _ _ _ _ h hb => h.next hb) (Below.refl _ _).drew ?_
  repeat (first
    | (refine wpLoud_loadB rfl rfl 79 (.tmp 15) rfl w.heap.size 3 rfl (idV p.n p.d) _ (fun z => rangeAt_id (H1.out.below z.bel H1.out.lt)) Tryd.underlying79 rfl HII.out _ (by simp only [Act.put, List.setIfInBounds_toArray, List.set_cons_succ, List.set_cons_zero]; rfl) ?_)
    | (refine wpLoud_loadB rfl rfl 79 (.tmp 17) rfl (w.heap.size + 1) 3 rfl (idV q.n q.d) _ (fun z => rangeAt_id (H2.out.below z.bel H2.out.lt)) Tryd.underlying79 rfl HII.out _ (by simp only [Act.put, List.setIfInBounds_toArray, List.set_cons_succ, List.set_cons_zero]; rfl) ?_)
    | (refine wpLoud_call 9 rfl [] (.int .i64 (cmpS p.s q.s)) 62 (fun g => #[.string p.s, .string q.s]) rfl (fun _ _ h => by cases h) rfl (fun g w => by kernel_rfl) (fun g z hg => by
        refine (cmp_s _ _ z.wd).mono ?_
        rintro e w' ⟨rfl, rfl⟩
        exact ⟨_, rfl, Below.refl _ _, rfl⟩) _ (by simp only [Act.put, List.setIfInBounds_toArray, List.set_cons_succ, List.set_cons_zero]; rfl) ?_)
    | (refine wpLoud_call 14 rfl [] (.int .i64 (cmpI p.t q.t)) 63 (fun g => #[.int .i64 p.t, .int .i64 q.t]) rfl (fun _ _ h => by cases h) rfl (fun g w => by kernel_rfl) (fun g z hg => by
        refine (cmp_i64 _ _ z.wd).mono ?_
        rintro e w' ⟨rfl, rfl⟩
        exact ⟨_, rfl, Below.refl _ _, rfl⟩) _ (by simp only [Act.put, List.setIfInBounds_toArray, List.set_cons_succ, List.set_cons_zero]; rfl) ?_)
    | (refine wpLoud_call 19 rfl [] (.int .i64 (cmpD p.n p.d q.n q.d)) 64 (fun g => #[.agg (idV p.n p.d), .agg (idV q.n q.d)]) rfl (fun _ _ h => by cases h) rfl (fun g w => by kernel_rfl) (fun g z hg => by
        refine (ids_c _ _ _ _ z.wd).mono ?_
        rintro e w' ⟨rfl, hb⟩
        exact ⟨_, rfl, hb, rfl⟩) _ (by simp only [Act.put, List.setIfInBounds_toArray, List.set_cons_succ, List.set_cons_zero]; rfl) ?_)
    | (refine wpLoud_make rfl (fun _ _ h => by cases h) rfl 20 rfl rfl (fun y => ⟨_, _, run_ints y.wd [cmpS p.s q.s, cmpI p.t q.t, cmpD p.n p.d q.n q.d] #[(0, .tmp 9), (1, .tmp 14), (2, .tmp 19)] rfl (by kernel_rfl) (by simp) (by simp), (Below.refl _ _).alloc (Nat.le_refl _) _, ⟨_, rfl, Blk.new _ _ _⟩⟩) _ (by simp only [Act.put, List.setIfInBounds_toArray, List.set_cons_succ, List.set_cons_zero]; rfl) ?_)
    | (refine wpLoud_call 21 rfl [20] (.int .i64 (cmpP p q)) 61 (fun g => #[g 20]) rfl (fun _ _ h => by cases h) rfl (fun g w => by kernel_rfl) (fun g z hg => by
        refine ((hg 20 (by simp)).or_ (by simp)).mono ?_
        rintro e w' ⟨rfl, rfl⟩
        exact ⟨_, rfl, Below.refl _ _, rfl⟩) _ (by simp only [Act.put, List.setIfInBounds_toArray, List.set_cons_succ, List.set_cons_zero]; rfl) ?_)
    | (refine wpLoud_plain rfl rfl rfl ?_; intro K hK; go_big_quiet_op; go_big_quiet_on))
  refine wpLoud_end [] (by rfl) ?_
  intro g z hg
  have HBZ := Lib.hid (HB.out.trans (z.bel.mono HB.out.size))
  generalize z.wd = Y2 at *
  simp only [fill, Act.put, List.setIfInBounds_toArray, List.set_cons_succ, List.set_cons_zero]
  go_wp2_with fail
  go_ret
  exact ⟨rfl, HBZ.out⟩
theorem pcInfo (p : Pc) : (Tryd.prog.info? 81).map (·.size) = some (pcV p).size := by
  show _ = some 5
  kernel_rfl
set_option maxRecDepth 100000 in
set_option maxHeartbeats 4000000 in
theorem less_c (p q : Pc) (w : World) : Calls Tryd.prog 38 #[.agg (pcV p), .agg (pcV q)] w fun e w' => e = .returned (.bool (lessP p q)) ∧ Below w.heap.size w w' := by
  have HLP := Lib.hid (show lessP p q = decide (cmpP p q < 0) from rfl)
  have HCC := Lib.hid (fun W => compare_c p q W)
  have HI1 := Lib.hid (pcInfo p)
  have HI2 := Lib.hid (pcInfo q)
  generalize cmpP p q = r at *
  generalize lessP p q = b at *
  go_enter Tryd.func38, Tryd.ntmps38
  go_upto_region 1 with (first
    | (refine Go.Great.wpList_boxTo rfl 81 (.tmp 0) rfl (some 2) rfl w.heap.size rfl (pcV p) rfl ?_)
    | (refine Go.Great.wpList_boxTo rfl 81 (.tmp 1) rfl (some 3) rfl (w.heap.size + 1) (by simp) (pcV q) rfl ?_))
  obtain ⟨Z, hZ⟩ : ∃ Z, Z = (w.alloc (Obj.cells (pcV p) 81)).alloc (Obj.cells (pcV q) 81) := ⟨_, rfl⟩
  have H1 := Lib.hid (show Blk Z w.heap.size 81 (pcV p) by rw [hZ]; exact (Blk.new w _ _).alloc _)
  have H2 := Lib.hid (show Blk Z (w.heap.size + 1) 81 (pcV q) by rw [hZ]; exact heap2P w _ _)
  have HB := Lib.hid (show Below w.heap.size w Z by rw [hZ]; exact ((Below.refl _ _).alloc (Nat.le_refl _) _).alloc (by simp) _)
  rw [← hZ]
  clear hZ
  go_wp2_with (first
    | (refine wpList_load_row rfl 81 (.tmp 2) rfl w.heap.size rfl 81 (pcV p) (0, 0) _ H1.out Tryd.underlying81 rfl HI1.out ?_)
    | (refine wpList_load_row rfl 81 (.tmp 3) rfl (w.heap.size + 1) rfl 81 (pcV q) (0, 0) _ H2.out Tryd.underlying81 rfl HI2.out ?_)
    | (go_at_call 46; (refine (HCC.out Z).mono ?_); rintro e W1 ⟨rfl, hb⟩; have HB1 := Lib.hid (HB.out.trans (hb.mono HB.out.size)); clear hb))
  go_ret
  exact ⟨by rw [HLP.out]; rfl, HB1.out⟩
end Go.Proofs.YtldjbbcfbjpfcaaDoor
/- Rows of pieces that are read; contracts: whether a piece may be, whether there are too many. -/
namespace Go.Proofs.YtldjbbcfbjpfcaaDoor
set_option maxRecDepth 100000
open Go.RowKit
set_option linter.unusedVariables false
set_option linter.unusedSimpArgs false
/-- cells from an address on -/
def AtA (w : World) (a : Addr) (cs : List Value) : Prop := ∀ j v, cs[j]? = some v → w.cell? (a.add j) = some v
theorem AtA.drop {w : World} {a : Addr} {cs : List Value} (h : AtA w a cs) (k n : Nat) : AtA w (a.add k) ((cs.drop k).take n) := fun j v hv => by
  rw [Addr.add_add]
  have hj : j < n := by
    rcases Nat.lt_or_ge j n with h1 | h1
    · exact h1
    · rw [List.getElem?_eq_none (by rw [List.length_take]; omega)] at hv; cases hv
  rw [List.getElem?_take_of_lt hj, List.getElem?_drop] at hv
  exact h (k + j) v hv
theorem AtA.below {w w' : World} {a : Addr} {cs : List Value} {B : Nat} (h : AtA w a cs) (hb : Below B w w') (ha : a.block < B) : AtA w' a cs := fun j v hv =>
  (hb.cell (by rw [add_block]; exact ha)).trans (h j v hv)
section
variable {P : Program}
theorem run_loadVar_at (w : World) (a : Addr) (ty : TypeId) (cs : List Value) (d : TypeDesc) (hc : AtA w a cs)
    (hu : P.underlying ty = some d) (hd : d.isRow = true) (hi : (P.info? ty).map (·.size) = some cs.length) :
    (loadVar ty a).run P w = .ok (.agg cs.toArray) w := by
  have hl : (loadCells a cs.length).run P w = .ok cs.toArray w := run_loadCells_list (P := P) w a cs hc
  cases hq : P.info? ty with
  | none => simp [hq] at hi
  | some i =>
    have hs : i.size = cs.length := by simpa [hq] using hi
    have hagg : (isAgg ty).run P w = .ok true w := by
      unfold isAgg
      rw [Sem.run_bind, run_underlying hu w]
      cases d <;> simp_all
    simp [loadVar, Sem.run_bind, hagg, sizeOf, typeInfo, hq, hs, hl]
end
section
variable {P : Program}
theorem wpList_loadA {ops : Array Oper} {rest : List Oper} {op : Oper} {a : Act} {w : World} {Q : Exit → Act → World → Prop} (hw : Region.wanted op (yielded ops a.tmps) = true) (ty : TypeId) (x : Operand) (ho : op.op = .load ty x)
    (b : Addr) (hx : a.eval x = .pointer (some b)) (l : List Value) (d : TypeDesc) (hc : AtA w b l)
    (hu : P.underlying ty = some d) (hd : d.isRow = true) (hi : (P.info? ty).map (·.size) = some l.length)
    (h : wpList P ops Q rest (a.put op.dst (.agg l.toArray)) w) : wpList P ops Q (op :: rest) a w :=
  wpList_valG hw _ (by
    unfold execOp
    simp only [ho, hx, Instr.loadAt, Instr.sureAddr, Sem.run_bind, Sem.run_pure, Result.andThen_ok, run_loadVar_at w b ty l d hc hu hd hi]) h
end
def pcs (l : List Pc) : List Value := (l.map pcL).flatten
theorem pcs_nil : pcs [] = [] := rfl
theorem pcs_cons (p : Pc) (l : List Pc) : pcs (p :: l) = pcL p ++ pcs l := by simp [pcs]
theorem pcs_app (l m : List Pc) : pcs (l ++ m) = pcs l ++ pcs m := by simp [pcs]
theorem pcs_len (l : List Pc) : (pcs l).length = l.length * 5 := by
  induction l with
  | nil => rfl
  | cons p l ih => rw [pcs_cons, List.length_append, ih]; simp [pcL]; omega
theorem pcs_drop (l : List Pc) (n : Nat) : pcs (l.drop n) = (pcs l).drop (n * 5) := by
  induction l generalizing n with
  | nil => simp [pcs_nil]
  | cons p l ih =>
    cases n with
    | zero => simp
    | succ n =>
      rw [List.drop_succ_cons, ih, pcs_cons, show (n + 1) * 5 = (pcL p).length + n * 5 by simp [pcL]; omega, List.drop_length_add_append]
theorem pcs_take (l : List Pc) (n : Nat) : pcs (l.take n) = (pcs l).take (n * 5) := by
  induction l generalizing n with
  | nil => simp [pcs_nil]
  | cons p l ih =>
    cases n with
    | zero => simp [pcs_nil]
    | succ n =>
      rw [List.take_succ_cons, pcs_cons, pcs_cons, ih, show (n + 1) * 5 = (pcL p).length + n * 5 by simp [pcL]; omega, List.take_length_add_append]
theorem pcs_one (l : List Pc) (i : Nat) (h : i < l.length) : ((pcs l).drop (i * 5)).take 5 = pcL (l.getD i pc0) := by
  rw [← pcs_drop, List.drop_eq_getElem_cons h, pcs_cons]
  simp [pcL, List.getD_eq_getElem?_getD, h]
/-- pieces that lie in memory -/
def RdP (w : World) (B : Nat) (A : Option Addr) (l : List Pc) : Prop := Rd w B A (pcs l)
theorem RdP.open_ {w : World} {B : Nat} {A : Option Addr} {l : List Pc} (h : RdP w B A l) (hn : 0 < l.length) : ∃ ad, A = some ad ∧ ad.block < B ∧ AtA w ad (pcs l) := by
  obtain ⟨ad, rfl, hb, hc⟩ := (show Rd w B A (pcs l) from h) (by intro h0; have := congrArg List.length h0; rw [pcs_len] at this; simp at this; omega)
  exact ⟨ad, rfl, hb, hc⟩
theorem AtA.piece {w : World} {ad : Addr} {l : List Pc} (h : AtA w ad (pcs l)) (i : Nat) (hi : i < l.length) : AtA w (ad.add (i * 5)) (pcL (l.getD i pc0)) := by
  rw [← pcs_one l i hi]; exact h.drop (i * 5) 5
theorem AtA.ser {w : World} {a : Addr} {p : Pc} (h : AtA w a (pcL p)) : w.cell? a = some (.string p.s) := by
  have := h 0 _ rfl
  rwa [show a.add 0 = a by simp [Addr.add]] at this
theorem pcLn (p : Pc) : (Tryd.prog.info? 81).map (·.size) = some (pcL p).length := by
  show _ = some 5
  kernel_rfl
def greatB (l : List Pc) (m : Nat) : Bool := decide (m < l.length) || (l.take m).any fun p => decide (400 < p.s.size)
theorem greatB_no {l : List Pc} {m : Nat} (h : greatB l m = false) : l.length ≤ m ∧ ∀ p ∈ l, p.s.size ≤ 400 := by
  unfold greatB at h
  rw [Bool.or_eq_false_iff, decide_eq_false_iff_not, List.any_eq_false] at h
  refine ⟨by omega, fun p hp => ?_⟩
  have := h.2 p (by rw [List.take_of_length_le (by omega)]; exact hp)
  simpa using this
end Go.Proofs.YtldjbbcfbjpfcaaDoor
/- Pieces, int64s that came in, opened. -/
namespace Go.Proofs.YtldjbbcfbjpfcaaDoor
set_option maxRecDepth 100000
open Go.ChangeShapes Go.WideShapes Go.ChangeAt Go.RowKit
set_option linter.unusedVariables false
theorem cut_eqP {cs : List Value} {n : Nat} (a : Nat) (xs : List Value) (hx : xs.length = n) (h : (cs.drop a).take n = xs) : cs.drop a = xs ++ cs.drop (a + n) := by
  rw [← h, ← List.drop_drop, List.take_append_drop]
theorem mark_of {H : Type} {enc : TypeId × Value → H} {W : World} {fuel : Nat} {cs : List Value} {y : DataW H × List MemPlace} (hf : DataW.trod enc Tryd.prog W 0 (fun _ => true) true fuel 79 cs = some y) :
    ∃ n d : Nat, n < 18446744073709551616 ∧ d < 65536 ∧ cs = [.int .u64 (n : Int), .int .u16 (d : Int)] := by
  obtain ⟨f0, f1, hs, ⟨o0, o1⟩, k0, k1⟩ : ∃ f0 f1 : Field, Tryd.prog.underlying 79 = some (.struct #[f0, f1]) ∧ (f0.offset = 0 ∧ f1.offset = 1) ∧ f0.type = 49 ∧ f1.type = 77 := ⟨_, _, Tryd.underlying79, ⟨rfl, rfl⟩, rfl, rfl⟩
  obtain ⟨xs, n, _, hx, hlc, hlen, hg⟩ := DataW.trod_struct hs hf
  have hlen' : xs.length = 2 := hlen
  have hC : Tryd.prog.cellsOf 79 = 2 := by kernel_rfl
  rw [hC] at hlc
  have h64 : Tryd.prog.cellsOf 49 = 1 := by kernel_rfl
  have h16 : Tryd.prog.cellsOf 77 = 1 := by kernel_rfl
  have g0 := hg 0 f0 rfl
  rw [k0, o0, h64, List.getElem?_eq_getElem (by omega)] at g0
  have g1 := hg 1 f1 rfl
  rw [k1, o1, h16, List.getElem?_eq_getElem (by omega)] at g1
  obtain ⟨z0, e0, _, w0⟩ := DataW.trod_int Tryd.underlying49 g0
  have b0 := bounds_u64 w0
  obtain ⟨n0, rfl⟩ := Int.eq_ofNat_of_zero_le b0.1
  obtain ⟨z1, e1, _, w1⟩ := DataW.trod_int Tryd.underlying77 g1
  have b1 := bounds_u16 w1
  obtain ⟨n1, rfl⟩ := Int.eq_ofNat_of_zero_le b1.1
  refine ⟨n0, n1, by omega, by omega, ?_⟩
  have c0 := cut_eqP (n := 1) 0 [_] rfl e0
  have c1 := cut_eqP (n := 1) 1 [_] rfl e1
  rw [List.drop_zero] at c0
  rw [c0, show 0 + 1 = 1 from rfl, c1, List.drop_eq_nil_of_le (by omega)]
  rfl
theorem piece_of {H : Type} {enc : TypeId × Value → H} {W : World} {fuel : Nat} {cs : List Value} {y : DataW H × List MemPlace} (hf : DataW.trod enc Tryd.prog W 0 (fun _ => true) true fuel 81 cs = some y) :
    ∃ p : Pc, cs = pcL p ∧ PcOk p ∧ p.s.size ≤ 9223372036854775807 := by
  obtain ⟨f0, f1, f2, f3, hs, ⟨o0, o1, o2, o3⟩, k0, k1, k2, k3⟩ : ∃ f0 f1 f2 f3 : Field, Tryd.prog.underlying 81 = some (.struct #[f0, f1, f2, f3]) ∧ (f0.offset = 0 ∧ f1.offset = 1 ∧ f2.offset = 2 ∧ f3.offset = 3) ∧ f0.type = 9 ∧ f1.type = 2 ∧ f2.type = 2 ∧ f3.type = 79 := ⟨_, _, _, _, Tryd.underlying81, ⟨rfl, rfl, rfl, rfl⟩, rfl, rfl, rfl, rfl⟩
  obtain ⟨xs, n, _, hx, hlc, hlen, hg⟩ := DataW.trod_struct hs hf
  have hlen' : xs.length = 4 := hlen
  have hC : Tryd.prog.cellsOf 81 = 5 := by kernel_rfl
  rw [hC] at hlc
  have hst : Tryd.prog.cellsOf 9 = 1 := by kernel_rfl
  have h64 : Tryd.prog.cellsOf 2 = 1 := by kernel_rfl
  have hid : Tryd.prog.cellsOf 79 = 2 := by kernel_rfl
  have g0 := hg 0 f0 rfl
  rw [k0, o0, hst, List.getElem?_eq_getElem (by omega)] at g0
  have g1 := hg 1 f1 rfl
  rw [k1, o1, h64, List.getElem?_eq_getElem (by omega)] at g1
  have g2 := hg 2 f2 rfl
  rw [k2, o2, h64, List.getElem?_eq_getElem (by omega)] at g2
  have g3 := hg 3 f3 rfl
  rw [k3, o3, hid, List.getElem?_eq_getElem (by omega)] at g3
  obtain ⟨s, e0, _, hsz⟩ := DataW.trod_string Tryd.underlying9 g0
  obtain ⟨z1, e1, _, w1⟩ := DataW.trod_int Tryd.underlying2 g1
  have b1 := bounds_i64 w1
  obtain ⟨z2, e2, _, w2⟩ := DataW.trod_int Tryd.underlying2 g2
  have b2 := bounds_i64 w2
  obtain ⟨n3, d3, hn, hd, e3⟩ := mark_of g3
  refine ⟨⟨s, z1, z2, n3, d3⟩, ?_, ⟨b1.1, by show z1 ≤ _; omega, b2.1, by show z2 ≤ _; omega, hn, hd⟩, by simpa [maxLen] using hsz⟩
  have c0 := cut_eqP (n := 1) 0 [_] rfl e0
  have c1 := cut_eqP (n := 1) 1 [_] rfl e1
  have c2 := cut_eqP (n := 1) 2 [_] rfl e2
  have c3 := cut_eqP (n := 2) 3 [_, _] rfl e3
  rw [List.drop_zero] at c0
  rw [c0, show 0 + 1 = 1 from rfl, c1, show 1 + 1 = 2 from rfl, c2, show 2 + 1 = 3 from rfl, c3, List.drop_eq_nil_of_le (by omega)]
  rfl
theorem open_pieces {H : Type} {enc : TypeId × Value → H} {W : World} {base : Nat} {v : Value} {d : DataW H} {p : List MemPlace} (hv : Value.okWide Tryd.prog W .any base 43 v)
    (h : DataW.Trod enc Tryd.prog W 0 (fun _ => true) true 43 v d p) :
    ∃ (A : Option Addr) (l : List Pc) (cap : Nat), v = .slice A l.length cap ∧ l.length ≤ cap ∧ l.length ≤ 9223372036854775807 ∧ (∀ p ∈ l, PcOk p ∧ p.s.size ≤ 9223372036854775807) ∧ RdP W W.heap.size A l := by
  have hC : Tryd.prog.cellsOf 81 = 5 := by kernel_rfl
  obtain ⟨A, len, cap, rfl⟩ := okWide_slice Tryd.underlying43 hv
  obtain ⟨fuel, hf⟩ := h
  rcases DataW.trod_slice Tryd.underlying43 hf with ⟨hcs, _⟩ | ⟨a, len', cap', elems, rest, n, _, hcs, _, hb, hl, hm, hlen, helem, _, _⟩
  · simp [Value.cells] at hcs
    obtain ⟨rfl, rfl, rfl⟩ := hcs
    exact ⟨none, [], 0, rfl, Nat.le_refl _, by simp, by simp, Rd.nil_ _ _ _⟩
  · simp [Value.cells] at hcs
    obtain ⟨rfl, rfl, rfl⟩ := hcs
    have key : ∀ m, m ≤ len → ∃ L : List Pc, L.length = m ∧ (∀ p ∈ L, PcOk p ∧ p.s.size ≤ 9223372036854775807) ∧ AtA W a (pcs L) := by
      intro m
      induction m with
      | zero => intro _; exact ⟨[], rfl, by simp, by intro j u hu; simp [pcs_nil] at hu⟩
      | succ m ih =>
        intro hm1
        obtain ⟨L, hL, hLs, hLc⟩ := ih (by omega)
        have he := helem m (by omega)
        have hem : elems[m]? = some (elems[m]'(by omega)) := List.getElem?_eq_getElem (by omega)
        rw [hem, hC, Option.bind_eq_some_iff] at he
        obtain ⟨cs', hcs', hy⟩ := he
        obtain ⟨q, rfl, hq⟩ := piece_of hy
        obtain ⟨_, _, hcell⟩ := World.cells?_some hcs'
        refine ⟨L ++ [q], by rw [List.length_append, hL]; rfl, fun c hc => (List.mem_append.1 hc).elim (hLs c) (fun h => by rw [List.mem_singleton.1 h]; exact hq), fun j u hu => ?_⟩
        rw [pcs_app] at hu
        rcases Nat.lt_or_ge j (m * 5) with hj | hj
        · rw [List.getElem?_append_left (by rw [pcs_len, hL]; exact hj)] at hu
          exact hLc j u hu
        · rw [List.getElem?_append_right (by rw [pcs_len, hL]; exact hj), pcs_len, hL, pcs_cons, pcs_nil, List.append_nil] at hu
          have hj2 : j - m * 5 < 5 := by
            rcases Nat.lt_or_ge (j - m * 5) 5 with h1 | h1
            · exact h1
            · rw [List.getElem?_eq_none (by simp [pcL]; omega)] at hu; cases hu
          have h2 := hcell (j - m * 5) hj2
          rw [Addr.add_add, show m * 5 + (j - m * 5) = j by omega] at h2
          rw [h2, hu]
    obtain ⟨L, hL, hLs, hLc⟩ := key len (Nat.le_refl _)
    refine ⟨some a, L, cap, by rw [hL], by rw [hL]; exact hl, by rw [hL]; simp only [maxLen] at hm; omega, hLs, fun hne => ?_⟩
    have h0 : 0 < (pcs L).length := by
      rcases Nat.eq_zero_or_pos (pcs L).length with h0 | h0
      · exact absurd (List.eq_nil_of_length_eq_zero h0) hne
      · exact h0
    have hc0 := hLc 0 _ (List.getElem?_eq_getElem h0)
    refine ⟨a, rfl, by have := cell_lt hc0; rwa [add_block] at this, hLc⟩
end Go.Proofs.YtldjbbcfbjpfcaaDoor
/- Contracts: names of tenants. -/
namespace Go.Proofs.YtldjbbcfbjpfcaaDoor
open Go.RowKit
set_option linter.unusedVariables false
set_option linter.unusedSimpArgs false
def ltrN (c : Nat) : Bool := (decide (97 ≤ c) && decide (c ≤ 122)) || ((decide (48 ≤ c) && decide (c ≤ 57)) || decide (c = 45))
def nameB (s : ByteArray) : Bool := (sby s).all ltrN && (decide (1 ≤ s.size) && decide (s.size ≤ 24))
theorem sby_size (s : ByteArray) : (sby s).length = s.size := by unfold sby; rw [List.length_map]; cases s with | mk d => rw [ByteArray.toList_mk]; rfl
theorem sby_data (s : ByteArray) : sby s = s.data.toList.map (·.toNat) := by
  unfold sby
  cases s with
  | mk d => rw [ByteArray.toList_mk]
theorem sby_take (s : ByteArray) (k : Nat) (h : k < s.size) : (sby s).take (k + 1) = (sby s).take k ++ [(s[k]).toNat] := by
  have hk : k < (s.data.toList.map (·.toNat)).length := by rw [← sby_data, sby_size]; exact h
  rw [sby_data, List.take_succ_eq_append_getElem hk, List.getElem_map]
  rfl
theorem name_no {s : ByteArray} {k : Nat} (h : k < s.size) (hc : ltrN (s[k]).toNat = false) : nameB s = false := by
  unfold nameB
  rw [Bool.and_eq_false_iff]
  left
  rw [List.all_eq_false]
  refine ⟨(s[k]).toNat, ?_, by rw [hc]; decide⟩
  have h1 := sby_take s k h
  have h2 : (s[k]).toNat ∈ (sby s).take (k + 1) := by rw [h1]; simp
  exact List.mem_of_mem_take h2
set_option maxRecDepth 100000 in
set_option maxHeartbeats 2000000 in
theorem name_c (s : ByteArray) (w : World) (hs : s.size ≤ 1000000000) : Calls Tryd.prog 21 #[.string s] w fun e w' => e = .returned (.bool (nameB s)) ∧ w = w' := by
  go_enter Tryd.func21, Tryd.ntmps21
  go_wp2
  go_loop [7] (fun i => ∃ k : Nat, k ≤ s.size ∧ i = .int .i64 k ∧ ((sby s).take k).all ltrN = true) (fun i => s.size - (intOf i).toNat)
  case atStart => exact ⟨0, Nat.zero_le _, rfl, rfl⟩
  case round =>
    obtain ⟨k, hk, rfl, hd⟩ := hrel
    have HD := Lib.hid hd
    clear hd
    by_cases hlt : k < s.size
    · have HT := Lib.hid (sby_take s k hlt)
      have HNO := Lib.hid (name_no hlt)
      have p1 : (k : Int) < (s.size : Int) := by omega
      rcases (show s[k].toNat < 45 ∨ s[k].toNat = 45 ∨ (45 < s[k].toNat ∧ s[k].toNat < 48) ∨ (48 ≤ s[k].toNat ∧ s[k].toNat ≤ 57) ∨ (57 < s[k].toNat ∧ s[k].toNat < 97) ∨ (97 ≤ s[k].toNat ∧ s[k].toNat ≤ 122) ∨ 122 < s[k].toNat by omega) with hc | hc | hc | hc | hc | hc | hc
      · have b1 : decide ((97 : Int) ≤ (s[k].toNat : Int)) = false := decide_eq_false (by omega)
        have b2 : decide ((s[k].toNat : Int) ≤ 122) = true := decide_eq_true (by omega)
        have b3 : decide ((48 : Int) ≤ (s[k].toNat : Int)) = false := decide_eq_false (by omega)
        have b4 : decide ((s[k].toNat : Int) ≤ 57) = true := decide_eq_true (by omega)
        have b5 : (((s[k].toNat : Nat) : Int) == 45) = false := by rw [beq_eq_false_iff_ne]; omega
        have b6 : (((s[k].toNat : Nat) : Int) != 45) = true := by rw [bne_iff_ne]; omega
        have HL := Lib.hid (show ltrN s[k].toNat = false by unfold ltrN; simp; omega)
        clear hc
        go_wp2_with fail
        go_ret
        exact ⟨by rw [HNO.out HL.out]; rfl, rfl⟩
      · have b1 : decide ((97 : Int) ≤ (s[k].toNat : Int)) = false := decide_eq_false (by omega)
        have b2 : decide ((s[k].toNat : Int) ≤ 122) = true := decide_eq_true (by omega)
        have b3 : decide ((48 : Int) ≤ (s[k].toNat : Int)) = false := decide_eq_false (by omega)
        have b4 : decide ((s[k].toNat : Int) ≤ 57) = true := decide_eq_true (by omega)
        have b5 : (((s[k].toNat : Nat) : Int) == 45) = true := by rw [beq_iff_eq]; omega
        have b6 : (((s[k].toNat : Nat) : Int) != 45) = false := by rw [bne_eq_false_iff_eq]; omega
        have HL := Lib.hid (show ltrN s[k].toNat = true by unfold ltrN; simp; omega)
        clear hc
        go_wp2_with fail
        go_round
        case rel => exact ⟨k + 1, by omega, by go_num, by rw [HT.out, List.all_append, HD.out, List.all_cons, HL.out]; rfl⟩
        case measure => simp [intOf]; omega
      · have b1 : decide ((97 : Int) ≤ (s[k].toNat : Int)) = false := decide_eq_false (by omega)
        have b2 : decide ((s[k].toNat : Int) ≤ 122) = true := decide_eq_true (by omega)
        have b3 : decide ((48 : Int) ≤ (s[k].toNat : Int)) = false := decide_eq_false (by omega)
        have b4 : decide ((s[k].toNat : Int) ≤ 57) = true := decide_eq_true (by omega)
        have b5 : (((s[k].toNat : Nat) : Int) == 45) = false := by rw [beq_eq_false_iff_ne]; omega
        have b6 : (((s[k].toNat : Nat) : Int) != 45) = true := by rw [bne_iff_ne]; omega
        have HL := Lib.hid (show ltrN s[k].toNat = false by unfold ltrN; simp; omega)
        clear hc
        go_wp2_with fail
        go_ret
        exact ⟨by rw [HNO.out HL.out]; rfl, rfl⟩
      · have b1 : decide ((97 : Int) ≤ (s[k].toNat : Int)) = false := decide_eq_false (by omega)
        have b2 : decide ((s[k].toNat : Int) ≤ 122) = true := decide_eq_true (by omega)
        have b3 : decide ((48 : Int) ≤ (s[k].toNat : Int)) = true := decide_eq_true (by omega)
        have b4 : decide ((s[k].toNat : Int) ≤ 57) = true := decide_eq_true (by omega)
        have b5 : (((s[k].toNat : Nat) : Int) == 45) = false := by rw [beq_eq_false_iff_ne]; omega
        have b6 : (((s[k].toNat : Nat) : Int) != 45) = true := by rw [bne_iff_ne]; omega
        have HL := Lib.hid (show ltrN s[k].toNat = true by unfold ltrN; simp; omega)
        clear hc
        go_wp2_with fail
        go_round
        case rel => exact ⟨k + 1, by omega, by go_num, by rw [HT.out, List.all_append, HD.out, List.all_cons, HL.out]; rfl⟩
        case measure => simp [intOf]; omega
      · have b1 : decide ((97 : Int) ≤ (s[k].toNat : Int)) = false := decide_eq_false (by omega)
        have b2 : decide ((s[k].toNat : Int) ≤ 122) = true := decide_eq_true (by omega)
        have b3 : decide ((48 : Int) ≤ (s[k].toNat : Int)) = true := decide_eq_true (by omega)
        have b4 : decide ((s[k].toNat : Int) ≤ 57) = false := decide_eq_false (by omega)
        have b5 : (((s[k].toNat : Nat) : Int) == 45) = false := by rw [beq_eq_false_iff_ne]; omega
        have b6 : (((s[k].toNat : Nat) : Int) != 45) = true := by rw [bne_iff_ne]; omega
        have HL := Lib.hid (show ltrN s[k].toNat = false by unfold ltrN; simp; omega)
        clear hc
        go_wp2_with fail
        go_ret
        exact ⟨by rw [HNO.out HL.out]; rfl, rfl⟩
      · have b1 : decide ((97 : Int) ≤ (s[k].toNat : Int)) = true := decide_eq_true (by omega)
        have b2 : decide ((s[k].toNat : Int) ≤ 122) = true := decide_eq_true (by omega)
        have b3 : decide ((48 : Int) ≤ (s[k].toNat : Int)) = true := decide_eq_true (by omega)
        have b4 : decide ((s[k].toNat : Int) ≤ 57) = false := decide_eq_false (by omega)
        have b5 : (((s[k].toNat : Nat) : Int) == 45) = false := by rw [beq_eq_false_iff_ne]; omega
        have b6 : (((s[k].toNat : Nat) : Int) != 45) = true := by rw [bne_iff_ne]; omega
        have HL := Lib.hid (show ltrN s[k].toNat = true by unfold ltrN; simp; omega)
        clear hc
        go_wp2_with fail
        go_round
        case rel => exact ⟨k + 1, by omega, by go_num, by rw [HT.out, List.all_append, HD.out, List.all_cons, HL.out]; rfl⟩
        case measure => simp [intOf]; omega
      · have b1 : decide ((97 : Int) ≤ (s[k].toNat : Int)) = true := decide_eq_true (by omega)
        have b2 : decide ((s[k].toNat : Int) ≤ 122) = false := decide_eq_false (by omega)
        have b3 : decide ((48 : Int) ≤ (s[k].toNat : Int)) = true := decide_eq_true (by omega)
        have b4 : decide ((s[k].toNat : Int) ≤ 57) = false := decide_eq_false (by omega)
        have b5 : (((s[k].toNat : Nat) : Int) == 45) = false := by rw [beq_eq_false_iff_ne]; omega
        have b6 : (((s[k].toNat : Nat) : Int) != 45) = true := by rw [bne_iff_ne]; omega
        have HL := Lib.hid (show ltrN s[k].toNat = false by unfold ltrN; simp; omega)
        clear hc
        go_wp2_with fail
        go_ret
        exact ⟨by rw [HNO.out HL.out]; rfl, rfl⟩
    · have hks : k = s.size := by omega
      have HF := Lib.hid (show (sby s).all ltrN = true by have h := HD.out; rw [hks, List.take_of_length_le (by rw [sby_size]; exact Nat.le_refl _)] at h; exact h)
      have HV := Lib.hid (show nameB s = (decide (1 ≤ s.size) && decide (s.size ≤ 24)) by unfold nameB; rw [HF.out, Bool.true_and])
      have p0 : ¬ (k : Int) < (s.size : Int) := by omega
      clear hks
      rcases (show s.size = 0 ∨ (1 ≤ s.size ∧ s.size ≤ 24) ∨ 24 < s.size by omega) with hz | hz | hz
      · have q1 : decide ((0 : Int) < (s.size : Int)) = false := decide_eq_false (by omega)
        have q2 : decide ((1 : Int) ≤ (s.size : Int)) = false := decide_eq_false (by omega)
        have q3 : decide ((s.size : Int) ≤ 24) = true := decide_eq_true (by omega)
        have q4 : decide (0 < s.size) = false := decide_eq_false (by omega)
        have HQ := Lib.hid (show nameB s = false by rw [HV.out]; simp; omega)
        clear hz
        go_wp2_with fail
        go_ret
        exact ⟨by rw [HQ.out]; rfl, rfl⟩
      · have q1 : decide ((0 : Int) < (s.size : Int)) = true := decide_eq_true (by omega)
        have q2 : decide ((1 : Int) ≤ (s.size : Int)) = true := decide_eq_true (by omega)
        have q3 : decide ((s.size : Int) ≤ 24) = true := decide_eq_true (by omega)
        have q4 : decide (0 < s.size) = true := decide_eq_true (by omega)
        have HQ := Lib.hid (show nameB s = true by rw [HV.out]; simp; omega)
        clear hz
        go_wp2_with fail
        go_ret
        exact ⟨by rw [HQ.out]; rfl, rfl⟩
      · have q1 : decide ((0 : Int) < (s.size : Int)) = true := decide_eq_true (by omega)
        have q2 : decide ((1 : Int) ≤ (s.size : Int)) = true := decide_eq_true (by omega)
        have q3 : decide ((s.size : Int) ≤ 24) = false := decide_eq_false (by omega)
        have q4 : decide (0 < s.size) = true := decide_eq_true (by omega)
        have HQ := Lib.hid (show nameB s = false by rw [HV.out]; simp; omega)
        clear hz
        go_wp2_with fail
        go_ret
        exact ⟨by rw [HQ.out]; rfl, rfl⟩
set_option maxRecDepth 100000 in
set_option maxHeartbeats 2000000 in
theorem rname_c (s : ByteArray) (w : World) (hs : s.size ≤ 1000000000) : Calls Tryd.prog 11 #[.string s] w fun e w' => e = .returned (.bool (nameB s)) ∧ w = w' := by
  go_enter Tryd.func11, Tryd.ntmps11
  go_wp2
  go_loop [3] (fun i => ∃ k : Nat, k ≤ s.size ∧ i = .int .i64 k ∧ ((sby s).take k).all ltrN = true) (fun i => s.size - (intOf i).toNat)
  case atStart => exact ⟨0, Nat.zero_le _, rfl, rfl⟩
  case round =>
    obtain ⟨k, hk, rfl, hd⟩ := hrel
    have HD := Lib.hid hd
    clear hd
    by_cases hlt : k < s.size
    · have HT := Lib.hid (sby_take s k hlt)
      have HNO := Lib.hid (name_no hlt)
      have p1 : (k : Int) < (s.size : Int) := by omega
      rcases (show s[k].toNat < 45 ∨ s[k].toNat = 45 ∨ (45 < s[k].toNat ∧ s[k].toNat < 48) ∨ (48 ≤ s[k].toNat ∧ s[k].toNat ≤ 57) ∨ (57 < s[k].toNat ∧ s[k].toNat < 97) ∨ (97 ≤ s[k].toNat ∧ s[k].toNat ≤ 122) ∨ 122 < s[k].toNat by omega) with hc | hc | hc | hc | hc | hc | hc
      · have b1 : decide ((97 : Int) ≤ (s[k].toNat : Int)) = false := decide_eq_false (by omega)
        have b2 : decide ((s[k].toNat : Int) ≤ 122) = true := decide_eq_true (by omega)
        have b3 : decide ((48 : Int) ≤ (s[k].toNat : Int)) = false := decide_eq_false (by omega)
        have b4 : decide ((s[k].toNat : Int) ≤ 57) = true := decide_eq_true (by omega)
        have b5 : (((s[k].toNat : Nat) : Int) == 45) = false := by rw [beq_eq_false_iff_ne]; omega
        have b6 : (((s[k].toNat : Nat) : Int) != 45) = true := by rw [bne_iff_ne]; omega
        have HL := Lib.hid (show ltrN s[k].toNat = false by unfold ltrN; simp; omega)
        clear hc
        go_wp2_with fail
        go_ret
        exact ⟨by rw [HNO.out HL.out]; rfl, rfl⟩
      · have b1 : decide ((97 : Int) ≤ (s[k].toNat : Int)) = false := decide_eq_false (by omega)
        have b2 : decide ((s[k].toNat : Int) ≤ 122) = true := decide_eq_true (by omega)
        have b3 : decide ((48 : Int) ≤ (s[k].toNat : Int)) = false := decide_eq_false (by omega)
        have b4 : decide ((s[k].toNat : Int) ≤ 57) = true := decide_eq_true (by omega)
        have b5 : (((s[k].toNat : Nat) : Int) == 45) = true := by rw [beq_iff_eq]; omega
        have b6 : (((s[k].toNat : Nat) : Int) != 45) = false := by rw [bne_eq_false_iff_eq]; omega
        have HL := Lib.hid (show ltrN s[k].toNat = true by unfold ltrN; simp; omega)
        clear hc
        go_wp2_with fail
        go_round
        case rel => exact ⟨k + 1, by omega, by go_num, by rw [HT.out, List.all_append, HD.out, List.all_cons, HL.out]; rfl⟩
        case measure => simp [intOf]; omega
      · have b1 : decide ((97 : Int) ≤ (s[k].toNat : Int)) = false := decide_eq_false (by omega)
        have b2 : decide ((s[k].toNat : Int) ≤ 122) = true := decide_eq_true (by omega)
        have b3 : decide ((48 : Int) ≤ (s[k].toNat : Int)) = false := decide_eq_false (by omega)
        have b4 : decide ((s[k].toNat : Int) ≤ 57) = true := decide_eq_true (by omega)
        have b5 : (((s[k].toNat : Nat) : Int) == 45) = false := by rw [beq_eq_false_iff_ne]; omega
        have b6 : (((s[k].toNat : Nat) : Int) != 45) = true := by rw [bne_iff_ne]; omega
        have HL := Lib.hid (show ltrN s[k].toNat = false by unfold ltrN; simp; omega)
        clear hc
        go_wp2_with fail
        go_ret
        exact ⟨by rw [HNO.out HL.out]; rfl, rfl⟩
      · have b1 : decide ((97 : Int) ≤ (s[k].toNat : Int)) = false := decide_eq_false (by omega)
        have b2 : decide ((s[k].toNat : Int) ≤ 122) = true := decide_eq_true (by omega)
        have b3 : decide ((48 : Int) ≤ (s[k].toNat : Int)) = true := decide_eq_true (by omega)
        have b4 : decide ((s[k].toNat : Int) ≤ 57) = true := decide_eq_true (by omega)
        have b5 : (((s[k].toNat : Nat) : Int) == 45) = false := by rw [beq_eq_false_iff_ne]; omega
        have b6 : (((s[k].toNat : Nat) : Int) != 45) = true := by rw [bne_iff_ne]; omega
        have HL := Lib.hid (show ltrN s[k].toNat = true by unfold ltrN; simp; omega)
        clear hc
        go_wp2_with fail
        go_round
        case rel => exact ⟨k + 1, by omega, by go_num, by rw [HT.out, List.all_append, HD.out, List.all_cons, HL.out]; rfl⟩
        case measure => simp [intOf]; omega
      · have b1 : decide ((97 : Int) ≤ (s[k].toNat : Int)) = false := decide_eq_false (by omega)
        have b2 : decide ((s[k].toNat : Int) ≤ 122) = true := decide_eq_true (by omega)
        have b3 : decide ((48 : Int) ≤ (s[k].toNat : Int)) = true := decide_eq_true (by omega)
        have b4 : decide ((s[k].toNat : Int) ≤ 57) = false := decide_eq_false (by omega)
        have b5 : (((s[k].toNat : Nat) : Int) == 45) = false := by rw [beq_eq_false_iff_ne]; omega
        have b6 : (((s[k].toNat : Nat) : Int) != 45) = true := by rw [bne_iff_ne]; omega
        have HL := Lib.hid (show ltrN s[k].toNat = false by unfold ltrN; simp; omega)
        clear hc
        go_wp2_with fail
        go_ret
        exact ⟨by rw [HNO.out HL.out]; rfl, rfl⟩
      · have b1 : decide ((97 : Int) ≤ (s[k].toNat : Int)) = true := decide_eq_true (by omega)
        have b2 : decide ((s[k].toNat : Int) ≤ 122) = true := decide_eq_true (by omega)
        have b3 : decide ((48 : Int) ≤ (s[k].toNat : Int)) = true := decide_eq_true (by omega)
        have b4 : decide ((s[k].toNat : Int) ≤ 57) = false := decide_eq_false (by omega)
        have b5 : (((s[k].toNat : Nat) : Int) == 45) = false := by rw [beq_eq_false_iff_ne]; omega
        have b6 : (((s[k].toNat : Nat) : Int) != 45) = true := by rw [bne_iff_ne]; omega
        have HL := Lib.hid (show ltrN s[k].toNat = true by unfold ltrN; simp; omega)
        clear hc
        go_wp2_with fail
        go_round
        case rel => exact ⟨k + 1, by omega, by go_num, by rw [HT.out, List.all_append, HD.out, List.all_cons, HL.out]; rfl⟩
        case measure => simp [intOf]; omega
      · have b1 : decide ((97 : Int) ≤ (s[k].toNat : Int)) = true := decide_eq_true (by omega)
        have b2 : decide ((s[k].toNat : Int) ≤ 122) = false := decide_eq_false (by omega)
        have b3 : decide ((48 : Int) ≤ (s[k].toNat : Int)) = true := decide_eq_true (by omega)
        have b4 : decide ((s[k].toNat : Int) ≤ 57) = false := decide_eq_false (by omega)
        have b5 : (((s[k].toNat : Nat) : Int) == 45) = false := by rw [beq_eq_false_iff_ne]; omega
        have b6 : (((s[k].toNat : Nat) : Int) != 45) = true := by rw [bne_iff_ne]; omega
        have HL := Lib.hid (show ltrN s[k].toNat = false by unfold ltrN; simp; omega)
        clear hc
        go_wp2_with fail
        go_ret
        exact ⟨by rw [HNO.out HL.out]; rfl, rfl⟩
    · have hks : k = s.size := by omega
      have HF := Lib.hid (show (sby s).all ltrN = true by have h := HD.out; rw [hks, List.take_of_length_le (by rw [sby_size]; exact Nat.le_refl _)] at h; exact h)
      have HV := Lib.hid (show nameB s = (decide (1 ≤ s.size) && decide (s.size ≤ 24)) by unfold nameB; rw [HF.out, Bool.true_and])
      have p0 : ¬ (k : Int) < (s.size : Int) := by omega
      clear hks
      rcases (show s.size = 0 ∨ (1 ≤ s.size ∧ s.size ≤ 24) ∨ 24 < s.size by omega) with hz | hz | hz
      · have q1 : decide ((0 : Int) < (s.size : Int)) = false := decide_eq_false (by omega)
        have q2 : decide ((1 : Int) ≤ (s.size : Int)) = false := decide_eq_false (by omega)
        have q3 : decide ((s.size : Int) ≤ 24) = true := decide_eq_true (by omega)
        have q4 : decide (0 < s.size) = false := decide_eq_false (by omega)
        have HQ := Lib.hid (show nameB s = false by rw [HV.out]; simp; omega)
        clear hz
        go_wp2_with fail
        go_ret
        exact ⟨by rw [HQ.out]; rfl, rfl⟩
      · have q1 : decide ((0 : Int) < (s.size : Int)) = true := decide_eq_true (by omega)
        have q2 : decide ((1 : Int) ≤ (s.size : Int)) = true := decide_eq_true (by omega)
        have q3 : decide ((s.size : Int) ≤ 24) = true := decide_eq_true (by omega)
        have q4 : decide (0 < s.size) = true := decide_eq_true (by omega)
        have HQ := Lib.hid (show nameB s = true by rw [HV.out]; simp; omega)
        clear hz
        go_wp2_with fail
        go_ret
        exact ⟨by rw [HQ.out]; rfl, rfl⟩
      · have q1 : decide ((0 : Int) < (s.size : Int)) = true := decide_eq_true (by omega)
        have q2 : decide ((1 : Int) ≤ (s.size : Int)) = true := decide_eq_true (by omega)
        have q3 : decide ((s.size : Int) ≤ 24) = false := decide_eq_false (by omega)
        have q4 : decide (0 < s.size) = true := decide_eq_true (by omega)
        have HQ := Lib.hid (show nameB s = false by rw [HV.out]; simp; omega)
        clear hz
        go_wp2_with fail
        go_ret
        exact ⟨by rw [HQ.out]; rfl, rfl⟩
end Go.Proofs.YtldjbbcfbjpfcaaDoor
/- Plain: what is laid is as long whatever the values. -/
namespace Go.Proofs.YtldjbbcfbjpfcaaDoor
set_option maxRecDepth 100000
def noV (p : Pc) : Pc := ⟨p.s, p.t, 0, p.n, p.d⟩
theorem run1_noV (s : ByteArray) : ∀ l : List Pc, run1 s (l.map noV) = run1 s l
  | [] => rfl
  | p :: l => by
    rw [List.map_cons, run1, run1, run1_noV s l]
    rfl
theorem gls_noV : ∀ l : List Pc, gls (l.map noV) = gls l := grps_ind (by rfl) fun p l ih => by
  rw [List.map_cons, gls_cons, gls_cons, show (noV p).s = p.s from rfl, run1_noV, ← List.map_drop, ih]
theorem cutsL_map (f : Pc → Pc) : ∀ (ns : List Nat) (l : List Pc), cutsL ns (l.map f) = (cutsL ns l).map (·.map f)
  | [], _ => rfl
  | n :: ns, l => by
    rw [cutsL, cutsL, List.map_cons, ← List.map_take, ← List.map_drop, cutsL_map f ns]
theorem roomG_noV : ∀ gs : List (List Pc), roomG (gs.map (·.map noV)) = roomG gs
  | [] => rfl
  | g :: gs => by
    simp only [List.map_cons, roomG, roomG_noV gs]
    cases g <;> rfl
theorem roomL_noV (l : List Pc) : roomL (l.map noV) = roomL l := by
  unfold roomL grps
  rw [gls_noV, cutsL_map, roomG_noV, List.length_map]
theorem okAt_noV (l : List Pc) (i : Nat) : okAt (l.map noV) i = okAt l i := by
  have h : ∀ j, (l.map noV).getD j pc0 = noV (l.getD j pc0) := fun j => by
    simp only [List.getD_eq_getElem?_getD, List.getElem?_map]
    cases l[j]? <;> rfl
  unfold okAt
  rw [h, h]
  rfl
theorem chkL_noV (l : List Pc) : chkL (l.map noV) = chkL l := by
  unfold chkL
  rw [roomL_noV, List.length_map]
  have h : okTo (l.map noV) l.length = okTo l l.length := by
    unfold okTo
    congr 1
    funext i
    exact okAt_noV l i
  rw [h]
theorem chkL_like {l m : List Pc} (h : l.map noV = m.map noV) : chkL l = chkL m := by rw [← chkL_noV l, h, chkL_noV]
theorem roomL_like {l m : List Pc} (h : l.map noV = m.map noV) : roomL l = roomL m := by rw [← roomL_noV l, h, roomL_noV]
theorem layL_like {l m : List Pc} (h : l.map noV = m.map noV) (h0 : chkL l = 0) (hl : ∀ p ∈ l, PcOk p) (hm : ∀ p ∈ m, PcOk p) : (layL l).length = (layL m).length := by
  rw [layL_len h0 hl, layL_len ((chkL_like h).symm.trans h0) hm, roomL_like h]
/-- the first k values are other ones -/
def vset : List Int → List Pc → Nat → List Pc
  | _, l, 0 => l
  | _, [], _ => []
  | [], l, _ => l
  | v :: vs, p :: l, k + 1 => ⟨p.s, p.t, v, p.n, p.d⟩ :: vset vs l k
theorem vset_cons (v : Int) (vs : List Int) (p : Pc) (l : List Pc) (k : Nat) : vset (v :: vs) (p :: l) (k + 1) = ⟨p.s, p.t, v, p.n, p.d⟩ :: vset vs l k := by rw [vset]
theorem vset_zero (vs : List Int) (l : List Pc) : vset vs l 0 = l := by cases vs <;> cases l <;> rfl
theorem vset_noV : ∀ (vs : List Int) (l : List Pc) (k : Nat), (vset vs l k).map noV = l.map noV
  | vs, l, 0 => by rw [vset_zero]
  | vs, [], k + 1 => by cases vs <;> rfl
  | [], p :: l, k + 1 => rfl
  | v :: vs, p :: l, k + 1 => by rw [vset, List.map_cons, List.map_cons, vset_noV vs l k]; rfl
theorem vset_len (vs : List Int) (l : List Pc) (k : Nat) : (vset vs l k).length = l.length := by
  have h := congrArg List.length (vset_noV vs l k)
  simpa using h
theorem vset_succ : ∀ (vs : List Int) (l : List Pc) (k : Nat) (_ : k < vs.length) (_ : k < l.length), vset vs l (k + 1) = (vset vs l k).set k ⟨(l.getD k pc0).s, (l.getD k pc0).t, vs.getD k 0, (l.getD k pc0).n, (l.getD k pc0).d⟩
  | [], _, _, h, _ => by simp at h
  | _ :: _, [], _, _, h => by simp at h
  | v :: vs, p :: l, 0, _, _ => by
    rw [vset_zero, vset_cons, vset_zero]; rfl
  | v :: vs, p :: l, k + 1, h, h2 => by
    rw [vset, vset, vset_succ vs l k (by simpa using h) (by simpa using h2)]
    rfl
theorem vset_at (vs : List Int) (l : List Pc) (k : Nat) (h : k < l.length) : ∀ (j : Nat), j ≤ k → (vset vs l j).getD k pc0 = l.getD k pc0 := by
  intro j hj
  induction j generalizing vs l k with
  | zero => rw [vset_zero]
  | succ j ih =>
    cases vs with
    | nil => cases l <;> rfl
    | cons v vs =>
      cases l with
      | nil => rfl
      | cons p l =>
        obtain ⟨k, rfl⟩ : ∃ k', k = k' + 1 := ⟨k - 1, by omega⟩
        rw [vset]
        exact ih vs l k (by simpa using h) (by omega)
theorem vset_ok {vs : List Int} (hv : ∀ v ∈ vs, -9223372036854775808 ≤ v ∧ v ≤ 9223372036854775807) {n : Nat} : ∀ {l : List Pc} (k : Nat) (_ : ∀ p ∈ l, PcOk p ∧ p.s.size ≤ n), ∀ p ∈ vset vs l k, PcOk p ∧ p.s.size ≤ n := by
  induction vs with
  | nil => intro l k h; cases k <;> cases l <;> exact h
  | cons v vs ih =>
    intro l k h
    cases k with
    | zero => rw [vset_zero]; exact h
    | succ k =>
      cases l with
      | nil => exact h
      | cons p l =>
        intro q hq
        rw [vset] at hq
        rcases List.mem_cons.1 hq with rfl | hq
        · have h1 := h p (List.mem_cons_self ..)
          have h2 := hv v (List.mem_cons_self ..)
          exact ⟨⟨h1.1.t0, h1.1.t1, h2.1, h2.2, h1.1.n1, h1.1.d1⟩, h1.2⟩
        · exact ih (fun v hv' => hv v (List.mem_cons_of_mem _ hv')) k (fun p hp => h p (List.mem_cons_of_mem _ hp)) q hq
end Go.Proofs.YtldjbbcfbjpfcaaDoor
/- Contracts: whether a piece may be; the document's room. -/
namespace Go.Proofs.YtldjbbcfbjpfcaaDoor
set_option maxRecDepth 100000
open Go.RowKit
set_option linter.unusedVariables false
set_option linter.unusedSimpArgs false
def pcE (p : Pc) : Int := if ckP p then 0 else 1
set_option maxRecDepth 100000 in
theorem pcheck_c (p : Pc) (w : World) (hz : p.s.size ≤ 9223372036854775807) : Calls Tryd.prog 37 #[.agg (pcV p)] w fun e w' => e = .returned (.int .i64 (pcE p)) ∧ Below w.heap.size w w' := by
  have HCK := Lib.hid (show ckP p = (decide (1 ≤ p.s.size) && decide (p.s.size ≤ 200)) from rfl)
  obtain ⟨r, hr⟩ : ∃ r, r = pcE p := ⟨_, rfl⟩
  rw [← hr]
  have h1 : Blk (w.alloc (Obj.cells (pcV p) 81)) w.heap.size 81 (pcV p) := Blk.new w _ _
  have HB := Lib.hid (show Below w.heap.size w (w.alloc (Obj.cells (pcV p) 81)) from (Below.refl _ _).alloc (Nat.le_refl _) _)
  have c0 : (w.alloc (Obj.cells (pcV p) 81)).cell? ⟨w.heap.size, 0, none⟩ = some (.string p.s) := (h1.cell 0).trans rfl
  clear h1
  rcases (show p.s.size = 0 ∨ (1 ≤ p.s.size ∧ p.s.size ≤ 200) ∨ 200 < p.s.size by omega) with hc | ⟨hc1, hc2⟩ | hc
  · have HBB := Lib.hid (show r = 1 by rw [hr]; show (if ckP p then (0 : Int) else 1) = _; rw [HCK.out, hc]; rfl)
    have HH := Lib.hid hc
    have t0 : ((p.s.size : Int) == 0) = true := by rw [hc]; rfl
    have t1 : decide ((1 : Int) ≤ (p.s.size : Int)) = false := by rw [hc]; rfl
    clear hc hz hr
    go_enter Tryd.func37, Tryd.ntmps37
    go_upto_region 1 with (refine Go.Great.wpList_boxTo rfl 81 (.tmp 0) rfl (some 1) rfl w.heap.size rfl (pcV p) rfl ?_)
    generalize w.alloc (Obj.cells (pcV p) 81) = Z at *
    go_wp2_with fail
    go_ret
    exact ⟨by rw [HBB.out]; rfl, HB.out⟩
  · have HBB := Lib.hid (show r = 0 by rw [hr]; show (if ckP p then (0 : Int) else 1) = _; rw [HCK.out, decide_eq_true hc1, decide_eq_true hc2]; rfl)
    have t0 : ((p.s.size : Int) == 0) = false := by rw [beq_eq_false_iff_ne]; omega
    have t1 : decide ((1 : Int) ≤ (p.s.size : Int)) = true := decide_eq_true (by omega)
    have t2 : decide ((200 : Int) < (p.s.size : Int)) = false := decide_eq_false (by omega)
    have t3 : decide ((p.s.size : Int) ≤ 200) = true := decide_eq_true (by omega)
    clear hc1 hc2 hz hr
    go_enter Tryd.func37, Tryd.ntmps37
    go_upto_region 1 with (refine Go.Great.wpList_boxTo rfl 81 (.tmp 0) rfl (some 1) rfl w.heap.size rfl (pcV p) rfl ?_)
    generalize w.alloc (Obj.cells (pcV p) 81) = Z at *
    go_wp2_with fail
    go_ret
    exact ⟨by rw [HBB.out]; rfl, HB.out⟩
  · have HBB := Lib.hid (show r = 1 by rw [hr]; show (if ckP p then (0 : Int) else 1) = _; rw [HCK.out, decide_eq_false (show ¬ p.s.size ≤ 200 by omega), Bool.and_false]; try rfl)
    have t0 : ((p.s.size : Int) == 0) = false := by rw [beq_eq_false_iff_ne]; omega
    have t1 : decide ((1 : Int) ≤ (p.s.size : Int)) = true := decide_eq_true (by omega)
    have t2 : decide ((200 : Int) < (p.s.size : Int)) = true := decide_eq_true (by omega)
    have t3 : decide ((p.s.size : Int) ≤ 200) = false := decide_eq_false (by omega)
    clear hc hz hr
    go_enter Tryd.func37, Tryd.ntmps37
    go_upto_region 1 with (refine Go.Great.wpList_boxTo rfl 81 (.tmp 0) rfl (some 1) rfl w.heap.size rfl (pcV p) rfl ?_)
    generalize w.alloc (Obj.cells (pcV p) 81) = Z at *
    go_wp2_with fail
    go_ret
    exact ⟨by rw [HBB.out]; rfl, HB.out⟩
theorem ser_ne (p q : Pc) : (p.s.toList != q.s.toList) = true ↔ p.s ≠ q.s := by
  rw [bne_iff_ne]
  exact ⟨fun h e => h (by rw [e]), fun h e => h (toList_inj e)⟩
end Go.Proofs.YtldjbbcfbjpfcaaDoor
/- Contracts: how many pieces are of one series. -/
namespace Go.Proofs.YtldjbbcfbjpfcaaDoor
set_option maxRecDepth 100000
open Go.RowKit
set_option linter.unusedVariables false
set_option linter.unusedSimpArgs false
theorem run1_at (s : ByteArray) : ∀ (l : List Pc) (k : Nat), k ≤ run1 s l → k < l.length → ((l.getD k pc0).s = s → k + 1 ≤ run1 s l) ∧ ((l.getD k pc0).s ≠ s → run1 s l = k)
  | [], k, _, h => by simp at h
  | p :: l, 0, hk, _ => by
    unfold run1
    constructor
    · intro h
      have h' : p.s = s := h
      rw [if_pos h']; omega
    · intro h
      have h' : ¬ p.s = s := h
      rw [if_neg h']
  | p :: l, k + 1, hk, h => by
    unfold run1 at hk ⊢
    by_cases he : p.s = s
    · rw [if_pos he] at hk ⊢
      have := run1_at s l k (by omega) (by simpa using h)
      simp only [List.getD_cons_succ]
      exact ⟨fun h1 => by have := this.1 h1; omega, fun h1 => by have := this.2 h1; omega⟩
    · rw [if_neg he] at hk; omega
/-- the closure: is it of another series? -/
theorem closure_c (p : Pc) (gl n c : Nat) (a : Addr) (s0 : ByteArray) (w : World) (hv : w.cell? ⟨gl, 0, none⟩ = some (.slice (some a) n c)) (hn : 0 < n) (ha : w.cell? a = some (.string s0)) (hb : gl < w.heap.size) (hab : a.block < w.heap.size) :
    Calls Tryd.prog 48 #[.agg (pcV p), .pointer (some ⟨gl, 0, none⟩)] w fun e w' => e = .returned (.bool (!(p.s.toList == s0.toList))) ∧ Below w.heap.size w w' := by
  have h1 : Blk (w.alloc (Obj.cells (pcV p) 81)) w.heap.size 81 (pcV p) := Blk.new w _ _
  have hB : Below w.heap.size w (w.alloc (Obj.cells (pcV p) 81)) := (Below.refl _ _).alloc (Nat.le_refl _) _
  have HB := Lib.hid hB
  have c0 : (w.alloc (Obj.cells (pcV p) 81)).cell? ⟨w.heap.size, 0, none⟩ = some (.string p.s) := (h1.cell 0).trans rfl
  have c1 : (w.alloc (Obj.cells (pcV p) 81)).cell? ⟨gl, 0, none⟩ = some (.slice (some a) n c) := (hB.cell (p := ⟨gl, 0, none⟩) hb).trans hv
  have c2 : (w.alloc (Obj.cells (pcV p) 81)).cell? a = some (.string s0) := (hB.cell hab).trans ha
  have p0 : (0 : Int) < (n : Int) := by omega
  obtain ⟨r, hr⟩ : ∃ r, r = !(p.s.toList == s0.toList) := ⟨_, rfl⟩
  have HR := Lib.hid hr
  rw [← hr]
  clear h1 hB hv ha hb hab hr
  go_enter Tryd.func48, Tryd.ntmps48
  go_upto_region 1 with (refine Go.Great.wpList_boxTo rfl 81 (.tmp 0) rfl (some 2) rfl w.heap.size rfl (pcV p) rfl ?_)
  generalize w.alloc (Obj.cells (pcV p) 81) = Z at *
  go_quiet (fail)
  have HB2 := Lib.hid (belowDrewN nq HB.out)
  generalize Z.drewN nq = Z2 at *
  go_wp2_with fail
  go_ret
  exact ⟨by rw [HR.out]; rfl, HB2.out⟩
/-- the index of the first one that is of another series, or -1 -/
def idxR (m n : Nat) : Int := if m < n then (m : Int) else -1
set_option maxRecDepth 100000 in
set_option maxHeartbeats 1000000 in
theorem index_c (gl c : Nat) (a : Addr) (l : List Pc) (s0 : ByteArray) (w : World) (hv : w.cell? ⟨gl, 0, none⟩ = some (.slice (some a) l.length c)) (hn : 0 < l.length) (hs0 : s0 = (l.getD 0 pc0).s) (hat : AtA w a (pcs l)) (hb : gl < w.heap.size) (hab : a.block < w.heap.size) (h1 : l.length ≤ 1000000) :
    Calls Tryd.prog 47 #[.slice (some a) l.length c, .func (.func 48) #[] #[.pointer (some ⟨gl, 0, none⟩)]] w fun e w' => e = .returned (.int .i64 (idxR (run1 s0 l) l.length)) ∧ Below w.heap.size w w' := by
  have HAT := Lib.hid hat
  have HRA := Lib.hid (run1_at s0 l)
  have HRL := Lib.hid (run1_le s0 l)
  have HCL := Lib.hid (fun W (h : Below w.heap.size w W) p => closure_c p gl l.length c a s0 W ((h.cell (p := ⟨gl, 0, none⟩) hb).trans hv) hn ((h.cell hab).trans (by rw [hs0]; have := (hat.piece 0 hn).ser; simpa [Addr.add] using this)) (Nat.lt_of_lt_of_le hb h.size) (Nat.lt_of_lt_of_le hab h.size))
  have HAB := Lib.hid hab
  obtain ⟨r, hr⟩ : ∃ r, r = idxR (run1 s0 l) l.length := ⟨_, rfl⟩
  have HRR := Lib.hid (show r = if run1 s0 l < l.length then ((run1 s0 l : Nat) : Int) else -1 from hr)
  rw [← hr]
  clear hv hat hb hab hs0 hr
  generalize run1 s0 l = m at *
  go_enter Tryd.func47, Tryd.ntmps47
  go_wp2
  go_loopw [8] (fun i wr => ∃ k : Nat, k ≤ l.length ∧ k ≤ m ∧ i = .int .i64 k ∧ Below w.heap.size w wr) (fun i _ => l.length - (intOf i).toNat)
  case atStart => exact ⟨0, Nat.zero_le _, Nat.zero_le _, rfl, Below.refl _ _⟩
  case round =>
    rename World => wr
    obtain ⟨k, hk, hkm, rfl, hb⟩ := hrel
    have HB := Lib.hid hb
    clear hb
    by_cases hlt : k < l.length
    · have p1 : (k : Int) < (l.length : Int) := by omega
      have HPC := Lib.hid ((HAT.out.below HB.out HAB.out).piece k hlt)
      have HRK := Lib.hid (HRA.out k hkm hlt)
      have HPI := Lib.hid (pcLn (l.getD k pc0))
      have HCK := Lib.hid (HCL.out wr HB.out (l.getD k pc0))
      generalize l.getD k pc0 = p at *
      by_cases hse : p.s = s0
      · have HK1 := Lib.hid (HRK.out.1 hse)
        have HS := Lib.hid (show (!(p.s.toList == s0.toList)) = false by rw [hse]; simp)
        rw [HS.out] at HCK
        clear hse
        go_wp2_with (first
          | (refine wpList_loadA rfl 81 (.tmp 14) rfl (a.add (k * 5)) rfl (pcL p) _ HPC.out Tryd.underlying81 rfl HPI.out ?_)
          | (go_at_call 48; (refine HCK.out.mono ?_); rintro e W1 ⟨rfl, hb1⟩; have HB1 := Lib.hid (HB.out.trans (hb1.mono HB.out.size)); clear hb1))
        go_roundw
        case rel => exact ⟨k + 1, by omega, by have := HK1.out; omega, by go_num, HB1.out⟩
        case measure => simp only [intOf]; omega
      · have HK1 := Lib.hid (HRK.out.2 hse)
        have HS := Lib.hid (show (!(p.s.toList == s0.toList)) = true by
          rw [Bool.not_eq_true', beq_eq_false_iff_ne]
          exact fun h => hse (toList_inj h))
        rw [HS.out] at HCK
        have HRV := Lib.hid (show r = (k : Int) by rw [HRR.out, HK1.out, if_pos hlt])
        clear hse
        go_wp2_with (first
          | (refine wpList_loadA rfl 81 (.tmp 14) rfl (a.add (k * 5)) rfl (pcL p) _ HPC.out Tryd.underlying81 rfl HPI.out ?_)
          | (go_at_call 48; (refine HCK.out.mono ?_); rintro e W1 ⟨rfl, hb1⟩; have HB1 := Lib.hid (HB.out.trans (hb1.mono HB.out.size)); clear hb1))
        go_ret
        exact ⟨by rw [HRV.out]; rfl, HB1.out⟩
    · obtain rfl : k = l.length := by omega
      have HRV := Lib.hid (show r = (-1 : Int) by rw [HRR.out, if_neg (by omega)])
      go_wp2_with fail
      go_ret
      exact ⟨by rw [HRV.out]; rfl, HB.out⟩
end Go.Proofs.YtldjbbcfbjpfcaaDoor
