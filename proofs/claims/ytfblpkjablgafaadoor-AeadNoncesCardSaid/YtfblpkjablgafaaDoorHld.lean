/- Regions that draw their order, some of whose operations make memory: what only looks is taken first. -/
import Derived.Test.YtfblpkjablgafaaDoorBas2
import Derived.OrdersHeld
namespace Go.Proofs.YtfblpkjablgafaaDoor
open Go.RowKit
set_option linter.unusedVariables false
set_option linter.unusedSimpArgs false
section
variable {P : Program} {ops : Array Oper} {md : Region.Mode} {S : World → Prop} {Q : Exit → Act → World → Prop}
theorem plain_value {o : Oper} {b : Act} {w : World} {v : Value} (hp : plainOp o.op = true) (h : o.quietAt P b S w v) : (execOp b.eval o).run P w = .ok (.value v) w := by
  unfold Oper.quietAt at h
  have hne := plain_run (P := P) (ρ := b.eval) hp w
  have hnk : ∀ w', (execOp b.eval o).run P w ≠ .ok .skip w' := by
    obtain ⟨dst, op, type, pos, after, guard⟩ := o
    have key : ∀ {α : Type} (s : Sem α) (g : α → Value) (w' : World), ((do pure (.value (g (← s))) : Sem Next)).run P w ≠ .ok .skip w' := by
      intro α s g w'
      rw [Sem.run_bind]
      cases s.run P w with
      | ok u w1 => simp [Result.andThen]
      | halt x w1 => simp [Result.andThen]
    intro w'
    cases op <;> simp only [plainOp] at hp <;> (try cases hp)
    case move x => simp [execOp]
    case assign x => simp [execOp]
    case pick c x y => exact key (asBool (b.eval c)) (fun t => if t then b.eval x else b.eval y) w'
    all_goals exact key _ (fun t => t) w'
  generalize (execOp b.eval o).run P w = r at *
  cases r with
  | ok n w' =>
    cases n <;> simp only [Oper.quietUpon] at h
    case value u => rw [h.1, h.2]
    case skip => exact absurd rfl (hnk w')
    case enter f args => exact absurd rfl (hne w' f args)
  | halt x w' => simp only [Oper.quietUpon] at h
/-- what only looks, first -/
theorem anyH_quiet (i : Nat) {oi : Oper} {fuel : Nat} {listed : Array Bool} {a : Act} {w : World} (hi : ops[i]? = some oi) (hs : Region.noSelect ops = true) (hf : Region.free md ops listed i = true) (hr : (Region.ready md ops listed).contains i = true)
    (hQ : ∀ v c a w, Q (.panic c) (a.put oi.dst v) w → Q (.panic c) a w) (hw : Region.wanted oi (yielded ops a.tmps) = true) (hp : plainOp oi.op = true) (hS : S w)
    (h : ∀ K : Act → Prop, (∀ a', wpAnyH P md ops Q S fuel (listed.setIfInBounds i true) a' w → K a') → oi.quiet P a S K) : wpAnyH P md ops Q S (fuel + 1) listed a w := by
  obtain ⟨v, h1, h2⟩ := h _ (fun _ h => h)
  exact wpAnyH_take hi hs hf hr (hQ v) (.inl ⟨hw, fun w' hw' => plain_value hp (h1 w' hw')⟩) hS h2
/-- the only one that may come up -/
theorem anyH_op (i : Nat) {o : Oper} {fuel : Nat} {listed : Array Bool} {a : Act} {w : World} (hr : Region.ready md ops listed = [i]) (hi : ops[i]? = some o) (hw : Region.wanted o (yielded ops a.tmps) = true)
    (h : o.wp P a w (fun a' w' => S w' ∧ wpAnyH P md ops Q S fuel (listed.setIfInBounds i true) a' w') Q) : wpAnyH P md ops Q S (fuel + 1) listed a w := by
  refine wpAnyH_all hr (by simp) fun j hj => ?_
  obtain rfl := List.mem_singleton.1 hj
  unfold wpOp
  simp only [hi, hw, if_true]
  exact .inl h
/-- one of two -/
theorem anyH_two (i j : Nat) {o p : Oper} {fuel : Nat} {listed : Array Bool} {a : Act} {w : World} (hr : Region.ready md ops listed = [i, j]) (hi : ops[i]? = some o) (hj : ops[j]? = some p) (hw : Region.wanted o (yielded ops a.tmps) = true) (hv : Region.wanted p (yielded ops a.tmps) = true)
    (h : o.wp P a w (fun a' w' => S w' ∧ wpAnyH P md ops Q S fuel (listed.setIfInBounds i true) a' w') Q) (h' : p.wp P a w (fun a' w' => S w' ∧ wpAnyH P md ops Q S fuel (listed.setIfInBounds j true) a' w') Q) : wpAnyH P md ops Q S (fuel + 1) listed a w := by
  refine wpAnyH_all hr (by simp) fun k hk => ?_
  rcases List.mem_cons.1 hk with rfl | hk
  · unfold wpOp
    simp only [hi, hw, if_true]
    exact .inl h
  · obtain rfl := List.mem_singleton.1 hk
    unfold wpOp
    simp only [hj, hv, if_true]
    exact .inl h'
/-- an operation whose run is told -/
theorem op_value {o : Oper} {a : Act} {w w' : World} {v : Value} {K : Act → World → Prop} (hrun : (execOp a.eval o).run P w = .ok (.value v) w') (a' : Act) (ha : a.put o.dst v = a') (h : K a' w') : o.wp P a w K Q := by
  subst ha
  unfold Oper.wp
  rw [hrun]
  exact h
/-- a call -/
theorem op_call {o : Oper} {a : Act} {w : World} {f : FuncId} {args : Array Value} {K : Act → World → Prop} (hrun : (execOp a.eval o).run P w = .ok (.enter f args) w) (a' : Value → Act) (ha : ∀ v, a.put o.dst v = a' v) (hc : Calls P f args w fun e w' => ∃ v, e = .returned v ∧ K (a' v) w') : o.wp P a w K Q := by
  unfold Oper.wp
  rw [hrun]
  refine Calls.mono hc ?_
  rintro e w' ⟨v, rfl, h⟩
  show K (a.put o.dst v) w'
  rw [ha]
  exact h
end
theorem op_convert {o : Oper} {a : Act} {w w' : World} {t1 t2 : TypeId} {x : Operand} {v u : Value} (ho : o.op = .convert t1 t2 x) (hx : a.eval x = v) (hrun : (convert t1 t2 v).run Tryd.prog w = .ok u w') : (execOp a.eval o).run Tryd.prog w = .ok (.value u) w' := by
  unfold execOp
  simp only [ho, hx, Sem.run_bind, hrun, Result.andThen_ok]
  rfl
theorem op_append {o : Oper} {a : Act} {w w' : World} {t : TypeId} {s x : Operand} {v u r : Value} (ho : o.op = .call { callee := .builtin .append, args := #[s, x], argTypes := #[t, t] }) (hs : a.eval s = v) (hx : a.eval x = u) (hrun : (Builtin.append_ #[t, t] o.type #[v, u]).run Tryd.prog w = .ok r w') : (execOp a.eval o).run Tryd.prog w = .ok (.value r) w' := by
  unfold execOp
  simp only [ho, resolve, invoke, builtin, Sem.run_bind, Sem.run_pure, Result.andThen_ok, List.map_toArray, List.map_cons, List.map_nil, hs, hx, hrun]
end Go.Proofs.YtfblpkjablgafaaDoor
