/- From a law's walk to the law's row, where the row lists the quarters' table. -/
import Derived.Test.YtfblpkjablgafaaDoorLift
import Derived.Test.YtfblpkjablgafaaDoorAw06
import Derived.LaidMore
import Derived.Lib.LaidTab
import Derived.MakeChecks
import Derived.Stop.Joined
import Derived.Test.YtfblpkjablgafaaDoorRows
namespace Go.Proofs.YtfblpkjablgafaaDoor
open Go.ChangeShapes Go.WideShapes Go.ChangeAt Go.RowKit
theorem cells_of_tab2 {H : Type} {enc : TypeId × Value → H} {P : Program} {w : World} {base : Nat} {sp : Nat → Bool} {held : Bool} {fuel : Nat} {t t2 e : TypeId} {n m : Nat} {k : IntKind} {cs : List Value} {zss : List (List Int)} {p : List MemPlace}
    (ht : P.underlying t = some (.array n t2)) (ht2 : P.underlying t2 = some (.array m e)) (he : P.underlying e = some (.int k)) (hce : P.cellsOf e = 1) (hct2 : P.cellsOf t2 = m)
    (h : DataW.trod enc P w base sp held fuel t cs = some (.agg (zss.map (Lib.tabData k)), p)) (i : Nat) (hi : i < n) : (cs.drop (i * m)).take m = (zss.getD i []).map fun z => Value.int k z := by
  cases fuel with
  | zero => simp [DataW.trod] at h
  | succ fuel =>
    simp only [DataW.trod, ht, hct2] at h
    split at h
    · rename_i hl
      obtain ⟨xs, hm, hx⟩ := Option.map_eq_some_iff.1 h
      have hxs : xs.map (·.1) = zss.map (Lib.tabData (H := H) k) := by
        have := congrArg Prod.fst hx
        simpa using this
      obtain ⟨b, hb, hf⟩ := Lib.mapM_at hm i i (by simp [hi])
      have h2 : (xs.map (·.1))[i]? = some b.1 := by simp [hb]
      rw [hxs] at h2
      simp only [List.getElem?_map, Option.map_eq_some_iff] at h2
      obtain ⟨zs, hzs, e1⟩ := h2
      obtain ⟨b1, b2⟩ := b
      simp only at e1
      subst e1
      rw [List.getD_eq_getElem?_getD, hzs]
      exact Lib.cells_of_tab ht2 he hce hct2 hf
    · cases h
def qz : List (List Int) := [[0, 4, 8, 12], [1, 5, 9, 13], [2, 6, 10, 14], [3, 7, 11, 15], [0, 5, 10, 15], [1, 6, 11, 12], [2, 7, 8, 13], [3, 4, 9, 14]]
def laidQ : List (String × DataW Unit) := [("quaestor/chacha.quarters", Rows.laid_quaestor_chacha_quarters)]
theorem laidQ_tab : laidQ = [("quaestor/chacha.quarters", .agg (qz.map (Lib.tabData .i64)))] := rfl
theorem gQuarters : Tryd.prog.globalNamed "quaestor/chacha.quarters" = some 0 := by kernel_rfl
theorem gQuartersT : (Tryd.prog.globals[0]?).map (·.type) = some 73 := by kernel_rfl
theorem cellsI : Tryd.prog.cellsOf 3 = 1 := by kernel_rfl
theorem cells4 : Tryd.prog.cellsOf 72 = 4 := by kernel_rfl
theorem cells84 : Tryd.prog.cellsOf 73 = 32 := by kernel_rfl
theorem door_met (os : Os) (args : Array Value) : laidMetH Tryd.prog laidQ ((World.doorLaid Tryd.prog 400 os).forCall (fun _ _ => 0) ⟨#[], args, []⟩).memory :=
  laidMetH_of_parts3 (fuel := 8) (laidMet_of_run' 8 (by kernel_rfl) (by kernel_rfl)) (by kernel_rfl) (by kernel_rfl)
theorem q_rows : (List.range 8).flatMap (fun i => (qz.getD i []).map fun z => Value.int .i64 z) = qcells.toList := by rfl
theorem rows_of (cs : List Value) (h : ∀ i, i < 8 → (cs.drop (i * 4)).take 4 = (qz.getD i []).map fun z => Value.int .i64 z) : cs.take 32 = qcells.toList := by
  rw [← q_rows]
  have e : ∀ n, n ≤ 8 → cs.take (n * 4) = (List.range n).flatMap (fun i => (qz.getD i []).map fun z => Value.int .i64 z) := by
    intro n
    induction n with
    | zero => intro _; simp
    | succ n ih =>
      intro hn
      rw [List.range_succ, List.flatMap_append, ← ih (by omega), List.flatMap_cons, List.flatMap_nil, List.append_nil, ← h n (by omega), Nat.succ_mul, List.take_add]
  exact e 8 (Nat.le_refl _)
theorem of_laidQ {W : World} (h : laidMetH Tryd.prog laidQ W) : QuartersAt W := by
  rw [MakeChecks.laidMetH_plain _ _ _ (by kernel_rfl), laidQ_tab] at h
  obtain ⟨ps, ⟨g', t', cs, fuel, p, q, hg', ht', hvar, hd, _, _⟩, _⟩ := h
  obtain rfl := Option.some.inj (gQuarters.symm.trans hg')
  obtain rfl := Option.some.inj (gQuartersT.symm.trans ht')
  have h32 := rows_of cs.toList (fun i hi => cells_of_tab2 Tryd.underlying73 Tryd.underlying72 Tryd.underlying3 cellsI cells4 hd i hi)
  have hc : ∀ i v, qcells.toList[i]? = some v → W.cell? ⟨0, 0 + i, none⟩ = some v := fun i v hv => by
    have hi : i < 32 := by
      have h1 := (List.getElem?_eq_some_iff.1 hv).1
      exact h1
    rw [← h32, List.getElem?_take, if_pos hi] at hv
    rw [Nat.zero_add]
    exact (World.var?_cell gQuarters hvar i).trans (by simpa using hv)
  exact ⟨hc, block_lt (hc 0 _ rfl)⟩
theorem liftQ {os : Os} (started : os.Started) {H : Type} {enc : TypeId × Value → H} (f : FuncId) {fn : Func} {s : ChangeSpec} {conds : List PathCond} (hconds : conds = [])
    (noInit : Tryd.checked.prog.inits.idxOf? f = none) (hfn : Tryd.checked.prog.funcs[f]? = some fn) (hs : LawSpec s fn.params.toList.length) (hres : fn.resultTypes = #[4])
    (hts : ∀ t ∈ fn.params.toList, Tryd.prog.readableRec t = true ∧ t < Tryd.prog.types.size)
    (witness : ∃ (w : World) (tape : Tape) (i : Input), w.os = os ∧ (w.forCall tape i).Shaped Tryd.checked.prog ∧ i.vars = [] ∧ Input.okWide Tryd.checked.prog (w.forCall tape i) .any w.heap.size f i ∧
      ((s.pre enc Tryd.checked.prog fn conds false (w.forCall tape i).memory i.args ∧ laidMetH Tryd.prog laidQ (w.forCall tape i).memory) ∧ sizedMet enc Tryd.checked.prog fn (OpenSpec.ofChange s) false (w.forCall tape i).memory i.args) ∧ Assume.holds {} Tryd.checked.prog (lone (Frame.enter Tryd.checked.prog f i.args .normal) [] (w.forCall tape i)))
    (walk : ∀ (W : World) (base : Nat) (args : Array Value) (ds : List (DataW H)) (ps : List MemPlace), QuartersAt W →
      (∀ (j : Nat) t v, fn.params[j]? = some t → args[j]? = some v → Value.okWide Tryd.prog W .any base t v) →
      DataW.TrodAll enc Tryd.prog W 0 (fun _ => true) true fn.params.toList args.toList ds ps → (∀ x ∈ ps, x.block < W.heap.size) → Calls Tryd.prog f args W (Yes W)) :
    ReturnsInHanded {} Tryd.checked os f .any (fun w args => (s.pre enc Tryd.prog fn conds false w args ∧ laidMetH Tryd.prog laidQ w) ∧ sizedMet enc Tryd.prog fn (OpenSpec.ofChange s) false w args) (s.post enc Tryd.prog fn false true false false) := by
  subst hconds
  refine returnsInHanded_of_change_and (C := Tryd.checked) (X := fun w _ => laidMetH Tryd.prog laidQ w) (fun _ _ _ hh h => h.of_heap hh) own started noInit hfn witness ?_
  intro W base args ds gs before hval hW _ _ hL _
  have hW' := hW
  have hlt : ∀ p ∈ before, p.block < W.heap.size := fun p hp => hW.lt p hp
  obtain ⟨p, q, hA, hV, hbef, hfz, hnd⟩ := hW
  rw [hs.1] at hV
  obtain ⟨rfl, rfl⟩ := trodVars_none hV
  rw [List.append_nil] at hbef
  subst hbef
  refine (walk W base args ds _ (of_laidQ hL) hval hA hlt).mono fun e W' ⟨he, bel⟩ => ?_
  subst he
  have hlen := trodAll_length _ _ _ _ hA
  have hfn' := hs.2 H ds hlen
  refine ⟨_, rfl, ?_⟩
  refine ⟨ds, [], before, [], before, [], hW', ?_, ?_, ?_, bel.frame _, fun h => by cases h⟩
  · rw [List.append_nil, hfn', hres]
    exact trodAll_mk1 (shut_bool Tryd.underlying4 _)
  · rw [List.append_nil, hfn']
    exact trodAll_below laidOut bel _ _ _ _ hts hA hlt
  · rw [List.append_nil, hfn', hs.1]; rfl
end Go.Proofs.YtfblpkjablgafaaDoor
