/- From a law's walk to the law's row, where the row lists the rounds' table. -/
import Derived.Test.YthlmlmkabjppeaaDoorLift
import Derived.Test.YthlmlmkabjppeaaDoorShaC
import Derived.LaidMore
import Derived.Lib.LaidTab
import Derived.MakeChecks
import Derived.Stop.Joined
namespace Go.Proofs.YthlmlmkabjppeaaDoor
open Go.ChangeShapes Go.WideShapes Go.ChangeAt Go.RowKit
def laidR : List (String × DataW Unit) := [("quaestor/sha.rounds", Rows.laid_quaestor_sha_rounds)]
theorem laidR_tab : laidR = [("quaestor/sha.rounds", Lib.tabData .u32 (kc.map fun (n : Nat) => (n : Int)))] := rfl
theorem gRounds : Tryd.prog.globalNamed "quaestor/sha.rounds" = some 0 := by kernel_rfl
theorem gRoundsT : (Tryd.prog.globals[0]?).map (·.type) = some 86 := by kernel_rfl
theorem cellsW : Tryd.prog.cellsOf 69 = 1 := by kernel_rfl
theorem cellsR : Tryd.prog.cellsOf 86 = 64 := by kernel_rfl
theorem door_met (os : Os) (args : Array Value) : laidMetH Tryd.prog laidR ((World.doorLaid Tryd.prog 400 os).forCall (fun _ _ => 0) ⟨#[], args, []⟩).memory :=
  laidMetH_of_parts3 (fuel := 8) (laidMet_of_run' 8 (by kernel_rfl) (by kernel_rfl)) (by kernel_rfl) (by kernel_rfl)
theorem of_laid {W : World} (h : laidMetH Tryd.prog laidR W) : (∀ i, i < 64 → W.cell? ⟨0, i, none⟩ = some (.int .u32 (kc.getD i 0 : Nat))) ∧ 0 < W.heap.size := by
  rw [MakeChecks.laidMetH_plain _ _ _ (by kernel_rfl), laidR_tab] at h
  have hT := Lib.tabIs_of_head gRounds gRoundsT Tryd.underlying86 Tryd.underlying69 cellsW cellsR h
  have hc : ∀ i, i < 64 → W.cell? ⟨0, i, none⟩ = some (.int .u32 (kc.getD i 0 : Nat)) := fun i hi => by
    have h1 := hT.cell gRounds i (by rw [List.length_map]; exact hi)
    rw [h1, List.getD_eq_getElem?_getD, List.getElem?_map, List.getD_eq_getElem?_getD, List.getElem?_eq_getElem (show i < kc.length from hi)]
    rfl
  exact ⟨hc, block_lt (hc 0 (by decide))⟩
theorem liftL {os : Os} (started : os.Started) {H : Type} {enc : TypeId × Value → H} (f : FuncId) {fn : Func} {s : ChangeSpec} {conds : List PathCond} (hconds : conds = [])
    (noInit : Tryd.checked.prog.inits.idxOf? f = none) (hfn : Tryd.checked.prog.funcs[f]? = some fn) (hs : LawSpec s fn.params.toList.length) (hres : fn.resultTypes = #[4])
    (hts : ∀ t ∈ fn.params.toList, Tryd.prog.readableRec t = true ∧ t < Tryd.prog.types.size)
    (witness : ∃ (w : World) (tape : Tape) (i : Input), w.os = os ∧ (w.forCall tape i).Shaped Tryd.checked.prog ∧ i.vars = [] ∧ Input.okWide Tryd.checked.prog (w.forCall tape i) .any w.heap.size f i ∧
      ((s.pre enc Tryd.checked.prog fn conds false (w.forCall tape i).memory i.args ∧ laidMetH Tryd.prog laidR (w.forCall tape i).memory) ∧ sizedMet enc Tryd.checked.prog fn (OpenSpec.ofChange s) false (w.forCall tape i).memory i.args) ∧ Assume.holds {} Tryd.checked.prog (lone (Frame.enter Tryd.checked.prog f i.args .normal) [] (w.forCall tape i)))
    (walk : ∀ (W : World) (base : Nat) (args : Array Value) (ds : List (DataW H)) (ps : List MemPlace), (∀ i, i < 64 → W.cell? ⟨0, i, none⟩ = some (.int .u32 (kc.getD i 0 : Nat))) → 0 < W.heap.size →
      (∀ (j : Nat) t v, fn.params[j]? = some t → args[j]? = some v → Value.okWide Tryd.prog W .any base t v) →
      DataW.TrodAll enc Tryd.prog W 0 (fun _ => true) true fn.params.toList args.toList ds ps → (∀ x ∈ ps, x.block < W.heap.size) → Calls Tryd.prog f args W (Yes W)) :
    ReturnsInHanded {} Tryd.checked os f .any (fun w args => (s.pre enc Tryd.prog fn conds false w args ∧ laidMetH Tryd.prog laidR w) ∧ sizedMet enc Tryd.prog fn (OpenSpec.ofChange s) false w args) (s.post enc Tryd.prog fn false true false false) := by
  subst hconds
  refine returnsInHanded_of_change_and (C := Tryd.checked) (X := fun w _ => laidMetH Tryd.prog laidR w) (fun _ _ _ hh h => h.of_heap hh) own started noInit hfn witness ?_
  intro W base args ds gs before hval hW _ _ hL _
  have hW' := hW
  have hlt : ∀ p ∈ before, p.block < W.heap.size := fun p hp => hW.lt p hp
  obtain ⟨p, q, hA, hV, hbef, hfz, hnd⟩ := hW
  rw [hs.1] at hV
  obtain ⟨rfl, rfl⟩ := trodVars_none hV
  rw [List.append_nil] at hbef
  subst hbef
  refine (walk W base args ds _ (of_laid hL).1 (of_laid hL).2 hval hA hlt).mono fun e W' ⟨he, bel⟩ => ?_
  subst he
  have hlen := trodAll_length _ _ _ _ hA
  have hfn' := hs.2 H ds hlen
  refine ⟨_, rfl, ?_⟩
  refine ⟨ds, [], before, [], before, [], hW', ?_, ?_, ?_, bel.frame _, fun h => by cases h⟩
  · rw [List.append_nil, hfn', hres]
    exact trodAll_mk1 (shut_bool Tryd.underlying4 _)
  · rw [List.append_nil, hfn']
    exact trodAll_below laidOut bel _ _ _ _ hts hA hlt
  · rw [List.append_nil, hfn', hs.1]; rfl
end Go.Proofs.YthlmlmkabjppeaaDoor
