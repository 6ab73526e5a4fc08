/- Parts, one behind the other: Lou Shw5 Rsm1 Rl0 Hx1 Hx2 Hx3 Aw02 Hx4 Rl4 Rl6. -/
import Derived.Test.YtdbfikcpaionbaaDoorZ03
import Derived.Deep.MidRow
import Derived.BigQuiet
import Derived.StillTailTactics
import Derived.WalkMore
import Derived.Lib.SlBytesConst
import Derived.Lib.SmallJoins
/- Regions that draw their order and hold calls whose answers hang on the order (addresses of new memory): one walk of the text's order serves all. -/
namespace Go.Proofs.YtdbfikcpaionbaaDoor
set_option maxRecDepth 100000
open Go.RowKit
set_option linter.unusedVariables false
/-- stands in the walk's frame for what a loud call handed back -/
def tok : Value := .bool true
def isTok (v : Value) : Bool := match v with | .bool true => true | _ => false
theorem isTok_eq {v : Value} (h : isTok v = true) : v = tok := by
  unfold isTok at h; split at h
  · rfl
  · cases h
section
variable {P : Program} {ops : Array Oper} {md : Region.Mode} {Z : World} {ls : List Tmp} {V : Tmp → Value → World → Prop}
def SimAt (ls : List Tmp) (V : Tmp → Value → World → Prop) (b a : Act) (w : World) (k : Tmp) : Prop :=
  (ls.contains k = true → b.eval (.tmp k) = tok → V k (a.eval (.tmp k)) w) ∧ (ls.contains k = false → a.eval (.tmp k) = b.eval (.tmp k))
structure Sim (ls : List Tmp) (V : Tmp → Value → World → Prop) (b a : Act) (w : World) : Prop where
  de : a.defers = b.defers
  sz : a.tmps.size = b.tmps.size
  at_ : ∀ k, SimAt ls V b a w k
def LoudUpon (P : Program) (ls : List Tmp) (V : Tmp → Value → World → Prop) (dst : Option Tmp) (w : World) (v : Value) : Result Next → Prop
  | .ok (.value u) w' => (w' = w ∧ u = v ∧ ∀ d, dst = some d → ls.contains d = false) ∨ (Below w.heap.size w w' ∧ ∀ d, dst = some d → ls.contains d = true ∧ V d u w')
  | .ok (.enter f args) w' => w' = w ∧ Calls P f args w (fun e w'' => ∃ u, e = .returned u ∧ Below w.heap.size w w'' ∧ ∀ d, dst = some d → (ls.contains d = true → V d u w'') ∧ (ls.contains d = false → u = v))
  | _ => False
def LQ (P : Program) (ops : Array Oper) (Z : World) (ls : List Tmp) (V : Tmp → Value → World → Prop) (o : Oper) (b : Act) (v : Value) : Prop :=
  ∀ a w, Below Z.heap.size Z w → (∀ k ∈ o.looksAt ops, SimAt ls V b a w k) → LoudUpon P ls V o.dst w v ((execOp a.eval o).run P w)
theorem LQ.put {o : Oper} {b : Act} {v u : Value} {dst : Option Tmp} (h : ∀ d, dst = some d → d ∉ o.looksAt ops) (hq : LQ P ops Z ls V o b v) : LQ P ops Z ls V o (b.put dst u) v := fun a w hC hs =>
  hq a w hC fun k hk => by
    have := hs k hk
    unfold SimAt at *
    rw [Act.eval_put (a := b) (dst := dst) (v := u) (x := .tmp k) (fun d hd he => h d hd (by injection he with he; rw [← he]; exact hk))] at this
    exact this
theorem LQ.unput {o : Oper} {b : Act} {v u : Value} {dst : Option Tmp} (h : ∀ d, dst = some d → d ∉ o.looksAt ops) (hq : LQ P ops Z ls V o (b.put dst u) v) : LQ P ops Z ls V o b v := fun a w hC hs =>
  hq a w hC fun k hk => by
    have := hs k hk
    unfold SimAt at *
    rw [Act.eval_put (a := b) (dst := dst) (v := u) (x := .tmp k) (fun d hd he => h d hd (by injection he with he; rw [← he]; exact hk))]
    exact this
def wpLoud (P : Program) (ops : Array Oper) (Z : World) (ls : List Tmp) (V : Tmp → Value → World → Prop) (Q : Act → Prop) : List Oper → Act → Prop
  | [], b => Q b
  | o :: rest, b => if Region.wanted o (yielded ops b.tmps) then ∃ v, LQ P ops Z ls V o b v ∧ wpLoud P ops Z ls V Q rest (b.put o.dst v) else wpLoud P ops Z ls V Q rest (b.put o.dst undef)
def lOp (P : Program) (ops : Array Oper) (Z : World) (ls : List Tmp) (V : Tmp → Value → World → Prop) (i : Nat) (K : Act → Prop) (b : Act) : Prop :=
  match ops[i]? with
  | none => K b
  | some o => if Region.wanted o (yielded ops b.tmps) then ∃ v, LQ P ops Z ls V o b v ∧ K (b.put o.dst v) else K (b.put o.dst undef)
theorem lOp_mono {i : Nat} {b : Act} {K K' : Act → Prop} (h : ∀ b, K b → K' b) (hh : lOp P ops Z ls V i K b) : lOp P ops Z ls V i K' b := by
  unfold lOp at *
  split
  · exact h _ (by simpa [*] using hh)
  · rename_i o ho
    simp only [ho] at hh
    split
    · rename_i hw; simp only [hw, if_true] at hh; obtain ⟨v, h1, h2⟩ := hh; exact ⟨v, h1, h _ h2⟩
    · rename_i hw; simp only [hw] at hh; exact h _ hh
def wpAnyL (P : Program) (md : Region.Mode) (ops : Array Oper) (Z : World) (ls : List Tmp) (V : Tmp → Value → World → Prop) (Q : Act → Prop) : Nat → Array Bool → Act → Prop
  | 0, listed, b => Region.ready md ops listed = [] ∧ Q b
  | fuel + 1, listed, b =>
    (Region.ready md ops listed = [] → Q b) ∧
    ∀ i ∈ Region.ready md ops listed, lOp P ops Z ls V i (wpAnyL P md ops Z ls V Q fuel (listed.setIfInBounds i true)) b
theorem eval_put_at (a : Act) (d : Tmp) (v : Value) (k : Tmp) : (a.put (some d) v).eval (.tmp k) = if k = d ∧ d < a.tmps.size then v else a.eval (.tmp k) := by
  by_cases h : k = d
  · subst h
    by_cases h2 : k < a.tmps.size
    · rw [if_pos ⟨rfl, h2⟩]
      simp [Act.put, Act.eval, h2]
    · rw [if_neg (fun h3 => h2 h3.2)]
      simp [Act.put, Act.eval, h2]
  · rw [if_neg (fun h3 => h h3.1)]
    exact Act.eval_put fun e he hx => h (by injection he with he; injection hx with hx; rw [hx, he])
theorem Sim.put {b a : Act} {w : World} (h : Sim ls V b a w) (dst : Option Tmp) (v u : Value) (hd : ∀ d, dst = some d → (ls.contains d = true → v = tok → V d u w) ∧ (ls.contains d = false → u = v)) : Sim ls V (b.put dst v) (a.put dst u) w := by
  cases dst with
  | none => exact h
  | some d =>
    obtain ⟨h1, h2⟩ := hd d rfl
    refine ⟨h.de, by simp [Act.put, h.sz], fun k => ?_⟩
    obtain ⟨s1, s2⟩ := h.at_ k
    unfold SimAt
    rw [eval_put_at, eval_put_at, h.sz]
    by_cases hk : k = d ∧ d < b.tmps.size
    · rw [if_pos hk, if_pos hk]
      obtain ⟨rfl, _⟩ := hk
      exact ⟨h1, h2⟩
    · rw [if_neg hk, if_neg hk]
      exact ⟨s1, s2⟩
theorem Sim.next {b a : Act} {w w' : World} (hV : ∀ k u w w', V k u w → Below w.heap.size w w' → V k u w') (h : Sim ls V b a w) (hb : Below w.heap.size w w') : Sim ls V b a w' :=
  ⟨h.de, h.sz, fun k => ⟨fun h1 h2 => hV k _ _ _ ((h.at_ k).1 h1 h2) hb, (h.at_ k).2⟩⟩
def guardsB (ops : Array Oper) (ls : List Tmp) : Bool := ops.all fun o => match o.guard with
  | none => true
  | some (g, _) => match (ops[g]?).bind (·.dst) with
    | some d => !ls.contains d
    | none => true
theorem wanted_sim {b a : Act} {w : World} (h : Sim ls V b a w) (hG : guardsB ops ls = true) {o : Oper} {i : Nat} (ho : ops[i]? = some o) : Region.wanted o (yielded ops a.tmps) = Region.wanted o (yielded ops b.tmps) := by
  unfold Region.wanted
  cases hg : o.guard with
  | none => rfl
  | some gw =>
    obtain ⟨g, want⟩ := gw
    have hi : i < ops.size := by
      rcases Nat.lt_or_ge i ops.size with h1 | h1
      · exact h1
      · rw [Array.getElem?_eq_none h1] at ho; cases ho
    have he : ops[i] = o := by rw [Array.getElem?_eq_getElem hi] at ho; injection ho
    have h1 := (Array.all_eq_true.1 hG) i hi
    rw [he, hg] at h1
    have hy : yielded ops a.tmps g = yielded ops b.tmps g := by
      unfold yielded
      cases ht : (ops[g]?).bind (·.dst) with
      | none => rfl
      | some t =>
        simp only [ht] at h1
        have h2 := (h.at_ t).2 (by simpa using h1)
        have h3 : a.tmps[t]? = b.tmps[t]? := by
          rcases Nat.lt_or_ge t b.tmps.size with h4 | h4
          · have h5 : t < a.tmps.size := by rw [h.sz]; exact h4
            simp only [Act.eval] at h2
            rw [Array.getElem?_eq_getElem h4, Array.getElem?_eq_getElem h5]
            simpa [h4, h5] using h2
          · rw [Array.getElem?_eq_none h4, Array.getElem?_eq_none (by rw [h.sz]; exact h4)]
        simp [h3]
    simp only [hy]
theorem loudStep (hV : ∀ k u w w', V k u w → Below w.heap.size w w' → V k u w') (hG : guardsB ops ls = true) {Q' : Exit → Act → World → Prop} {K : Act → Prop} {K' : Act → World → Prop} (ih : ∀ b a w, Below Z.heap.size Z w → Sim ls V b a w → K b → K' a w)
    {i : Nat} {b a : Act} {w : World} (hC : Below Z.heap.size Z w) (hs : Sim ls V b a w) (h1 : lOp P ops Z ls V i K b) : wpOp P ops Q' i K' a w := by
  unfold lOp at h1
  unfold wpOp
  cases ho : ops[i]? with
  | none => simp only [ho] at h1 ⊢; exact ih _ _ _ hC hs h1
  | some o =>
    simp only [ho] at h1 ⊢
    rw [wanted_sim hs hG ho]
    split
    · rename_i hw
      simp only [hw, if_true] at h1
      obtain ⟨v, hq, hK⟩ := h1
      refine .inl ?_
      have h2 := hq a w hC (fun k _ => hs.at_ k)
      unfold Oper.wp
      generalize (execOp a.eval o).run P w = r at *
      cases r with
      | ok n w' =>
        cases n <;> simp only [LoudUpon] at h2 <;> simp only [Oper.upon]
        case value u =>
          rcases h2 with ⟨rfl, rfl, h3⟩ | ⟨hb, h3⟩
          · exact ih _ _ _ hC (hs.put _ _ _ fun d hd => ⟨fun h4 => (by rw [h3 d hd] at h4; cases h4), fun _ => rfl⟩) hK
          · exact ih _ _ _ (hC.trans (hb.mono hC.size)) ((hs.next hV hb).put _ _ _ fun d hd => ⟨fun _ _ => (h3 d hd).2, fun h4 => (by rw [(h3 d hd).1] at h4; cases h4)⟩) hK
        case enter f args =>
          obtain ⟨rfl, hc⟩ := h2
          refine hc.mono ?_
          rintro e w'' ⟨u, rfl, hb, hd⟩
          exact ih _ _ _ (hC.trans (hb.mono hC.size)) ((hs.next hV hb).put _ _ _ fun d h3 => ⟨fun h4 _ => (hd d h3).1 h4, (hd d h3).2⟩) hK
      | halt x w' => simp only [LoudUpon] at h2
    · rename_i hw
      simp only [hw] at h1
      exact ih _ _ _ hC (hs.put _ _ _ fun d hd => ⟨fun _ h4 => (by cases h4), fun _ => rfl⟩) h1
theorem wpAny_of_loud (hV : ∀ k u w w', V k u w → Below w.heap.size w w' → V k u w') (hG : guardsB ops ls = true) {Q : Act → Prop} {Q' : Exit → Act → World → Prop} (hQ : ∀ b a w, Below Z.heap.size Z w → Sim ls V b a w → Q b → Q' .normal a w) :
    ∀ (fuel : Nat) (listed : Array Bool) (b a : Act) (w : World), Below Z.heap.size Z w → Sim ls V b a w → wpAnyL P md ops Z ls V Q fuel listed b → wpAny P md ops Q' fuel listed a w
  | 0, _, _, _, _, hC, hs, h => ⟨h.1, hQ _ _ _ hC hs h.2⟩
  | fuel + 1, listed, b, a, w, hC, hs, h => ⟨fun h0 => hQ _ _ _ hC hs (h.1 h0), fun i hi => loudStep hV hG (fun b a w => wpAny_of_loud hV hG hQ fuel _ b a w) hC hs (h.2 i hi)⟩
def YieldsL (P : Program) (ops : Array Oper) (Z : World) (ls : List Tmp) (V : Tmp → Value → World → Prop) (o : Oper) (v : Value) (b : Act) : Prop :=
  (Region.wanted o (yielded ops b.tmps) = true ∧ LQ P ops Z ls V o b v) ∨ (Region.wanted o (yielded ops b.tmps) = false ∧ v = undef)
theorem YieldsL.lOp {i : Nat} {o : Oper} {v : Value} {b : Act} (hi : ops[i]? = some o) (hy : YieldsL P ops Z ls V o v b) {K : Act → Prop} (h : K (b.put o.dst v)) : lOp P ops Z ls V i K b := by
  unfold Go.Proofs.YtdbfikcpaionbaaDoor.lOp
  simp only [hi]
  rcases hy with ⟨hw, hv⟩ | ⟨hw, rfl⟩
  · simp only [hw, if_true]; exact ⟨v, hv, h⟩
  · simp only [hw, Bool.false_eq_true, if_false]; exact h
theorem yieldsL_of {i : Nat} {o : Oper} {b : Act} {K : Act → Prop} (hi : ops[i]? = some o) (h : lOp P ops Z ls V i K b) : ∃ v, YieldsL P ops Z ls V o v b ∧ K (b.put o.dst v) := by
  unfold lOp at h
  simp only [hi] at h
  by_cases hw : Region.wanted o (yielded ops b.tmps) = true
  · simp only [hw, if_true] at h
    obtain ⟨v, h1, h2⟩ := h
    exact ⟨v, .inl ⟨hw, h1⟩, h2⟩
  · simp only [hw] at h
    exact ⟨undef, .inr ⟨by simpa using hw, rfl⟩, h⟩
theorem lOp_put {j : Nat} {oi oj : Oper} {v : Value} (hj : ops[j]? = some oj) (hap : oi.apart ops oj = true) {K : Act → Prop} {b : Act}
    (hy : YieldsL P ops Z ls V oi v b) (h : lOp P ops Z ls V j K (b.put oi.dst v)) : lOp P ops Z ls V j (fun b' => YieldsL P ops Z ls V oi v b' ∧ K (b'.put oi.dst v)) b := by
  obtain ⟨h1, h2, h3⟩ := Oper.apart_spec hap
  have keep : ∀ (b : Act), YieldsL P ops Z ls V oi v b → ∀ u, YieldsL P ops Z ls V oi v (b.put oj.dst u) := fun b hy u => by
    unfold YieldsL at *
    rw [wanted_put oi b oj.dst u h3]
    exact hy.imp (fun h => ⟨h.1, h.2.put h3⟩) id
  unfold lOp at *
  simp only [hj] at *
  rw [wanted_put oj b oi.dst v h1] at h
  split
  · rename_i hw
    simp only [hw, if_true] at h
    obtain ⟨u, hu, hn⟩ := h
    exact ⟨u, hu.unput h1, keep b hy u, by rw [← Act.put_comm b v u h2]; exact hn⟩
  · rename_i hw
    simp only [hw] at h
    exact ⟨keep b hy _, by rw [← Act.put_comm b v undef h2]; exact h⟩
theorem wpAnyL_first {Q : Act → Prop} {i : Nat} {oi : Oper} {v : Value} (hi : ops[i]? = some oi) :
    ∀ (fuel : Nat) (listed : Array Bool) (b : Act),
      (∀ j oj, ops[j]? = some oj → j ≠ i → listed.getD j true = false → (∀ e ∈ oj.after, Region.binds md e = true → e.on ≠ i) → oi.apart ops oj = true) →
      i ∈ Region.ready md ops listed → YieldsL P ops Z ls V oi v b →
      wpAnyL P md ops Z ls V Q fuel (listed.setIfInBounds i true) (b.put oi.dst v) → wpAnyL P md ops Z ls V Q (fuel + 1) listed b := by
  intro fuel
  induction fuel with
  | zero =>
    intro listed b _ hr hy H
    refine ⟨fun h => (by rw [h] at hr; cases hr), fun j hj => ?_⟩
    by_cases hji : j = i
    · subst hji; exact hy.lOp hi H
    · have := ready_mono hj hji
      rw [H.1] at this
      cases this
  | succ fuel ih =>
    intro listed b hfree hr hy H
    refine ⟨fun h => (by rw [h] at hr; cases hr), fun j hj => ?_⟩
    by_cases hji : j = i
    · subst hji; exact hy.lOp hi H
    · have h1 := H.2 j (ready_mono hj hji)
      obtain ⟨hjun, oj, hoj, hall⟩ := mem_ready.1 hj
      have hnot : ∀ e ∈ oj.after, Region.binds md e = true → e.on ≠ i := fun e he hb heq => by
        have h1 := hall e he hb
        have h0 := (mem_ready.1 hr).1
        rw [heq] at h1
        rcases Nat.lt_or_ge i listed.size with h' | h'
        · simp [h'] at h0 h1; rw [h0] at h1; cases h1
        · simp [Array.getElem?_eq_none h'] at h1
      have h2 := lOp_put hoj (hfree j oj hoj hji hjun hnot) hy h1
      have hfree' : ∀ k ok, ops[k]? = some ok → k ≠ i → (listed.setIfInBounds j true).getD k true = false →
          (∀ e ∈ ok.after, Region.binds md e = true → e.on ≠ i) → oi.apart ops ok = true := fun k ok hk hki hun hno => by
        refine hfree k ok hk hki ?_ hno
        by_cases hjk : j = k
        · subst hjk; exact hjun
        · rw [getD_set_ne true hjk] at hun; exact hun
      refine lOp_mono (fun b' h3 => ih (listed.setIfInBounds j true) b' hfree' (ready_mono hr (Ne.symm hji)) h3.1 ?_) h2
      rw [Array.setIfInBounds_comm _ _ hji]
      exact h3.2
theorem wpAnyL_lex {Q : Act → Prop} : ∀ (l : List Oper) (k : Nat) (listed : Array Bool) (b : Act), (∀ j, l[j]? = ops[k + j]?) →
    Region.lexFrom md ops l.length k listed = true → wpLoud P ops Z ls V Q l b → wpAnyL P md ops Z ls V Q l.length listed b
  | [], _, _, _, _, hB, h => ⟨by simpa [Region.lexFrom] using hB, h⟩
  | o :: l, k, listed, b, hl, hB, h => by
    have h0 : ops[k]? = some o := by simpa using (hl 0).symm
    simp only [List.length_cons, Region.lexFrom, Bool.and_eq_true] at hB
    obtain ⟨⟨hr, hf⟩, hB'⟩ := hB
    have hst : lOp P ops Z ls V k (wpLoud P ops Z ls V Q l) b := by unfold lOp; simp only [h0]; exact h
    obtain ⟨v, hy, hK⟩ := yieldsL_of h0 hst
    exact wpAnyL_first h0 l.length listed b (Region.free_spec h0 hf) (by simpa using hr) hy
      (wpAnyL_lex l (k + 1) _ _ (fun j => by have := hl (j + 1); simpa [Nat.add_assoc, Nat.add_comm 1 j] using this) hB' hK)
def idleB (a : Act) (ls : List Tmp) : Bool := ls.all fun k => !isTok (a.eval (.tmp k))
theorem idle_sim {a : Act} {w : World} (hI : idleB a ls = true) : Sim ls V a a w := by
  refine ⟨rfl, rfl, fun k => ⟨fun h1 h2 => ?_, fun _ => rfl⟩⟩
  have h3 := List.all_eq_true.1 hI k (by simpa using h1)
  rw [h2] at h3
  cases h3
theorem wp_region_loud (Z : World) (ls : List Tmp) (V : Tmp → Value → World → Prop) {id : Nat} {Q : Exit → Act → World → Prop} {a : Act} {w : World} {l : List Oper} (hm : P.follows .mixedOrders = true) (hB : Region.lexB .any l.toArray = true) (hG : guardsB l.toArray ls = true) (hI : idleB a ls = true)
    (hV : ∀ k u w w', V k u w → Below w.heap.size w w' → V k u w') (hC : Below Z.heap.size Z w.drew)
    (h : wpLoud P l.toArray Z ls V (fun b => ∀ a' w', Below Z.heap.size Z w' → Sim ls V b a' w' → Q .normal a' w') l a) : (Code.region id l.toArray true).wp P Q a w := by
  simp only [Region.lexB, Bool.and_eq_true] at hB
  refine wp_region_any hm (wpAny_of_loud (Q := fun b => ∀ a' w', Below Z.heap.size Z w' → Sim ls V b a' w' → Q .normal a' w') hV hG (fun b a w h1 h2 h3 => h3 a w h1 h2) _ _ a a _ hC (idle_sim hI) ?_)
  · have := wpAnyL_lex (P := P) (Z := Z) (ls := ls) (V := V) (md := .any) l 0 (Array.replicate l.toArray.size false) a (by simp) (by simpa using hB.2) h
    simpa using this
/-! the head of a region so, its tail as it stands -/
def wpAnyLT (P : Program) (md : Region.Mode) (ops : Array Oper) (Z : World) (ls : List Tmp) (V : Tmp → Value → World → Prop) (n : Nat) (L : Array Bool → Act → Prop) : Nat → Array Bool → Act → Prop
  | 0, listed, b => L listed b
  | f + 1, listed, b => Region.ready md ops listed ≠ [] ∧ ∀ i ∈ Region.ready md ops listed, i < n ∧ lOp P ops Z ls V i (wpAnyLT P md ops Z ls V n L f (listed.setIfInBounds i true)) b
theorem wpAny_of_loudHead {n g : Nat} (hV : ∀ k u w w', V k u w → Below w.heap.size w w' → V k u w') (hG : guardsB ops ls = true) {L : Array Bool → Act → Prop} {Q' : Exit → Act → World → Prop} (hL : ∀ listed b a w, Below Z.heap.size Z w → Sim ls V b a w → L listed b → wpAny P md ops Q' g listed a w) :
    ∀ (f : Nat) (listed : Array Bool) (b a : Act) (w : World), Below Z.heap.size Z w → Sim ls V b a w → wpAnyLT P md ops Z ls V n L f listed b → wpAny P md ops Q' (f + g) listed a w
  | 0, listed, b, a, w, hC, hs, h => by rw [Nat.zero_add]; exact hL _ _ _ _ hC hs h
  | f + 1, listed, b, a, w, hC, hs, h => by
    rw [show f + 1 + g = (f + g) + 1 by omega]
    exact ⟨fun h0 => absurd h0 h.1, fun i hi => loudStep hV hG (fun b a w => wpAny_of_loudHead hV hG hL f _ b a w) hC hs (h.2 i hi).2⟩
theorem wpAnyLT_first {n i : Nat} {oi : Oper} {v : Value} {L : Array Bool → Act → Prop} (hi : ops[i]? = some oi)
    (hs : Region.sinkB md ops n = true) (hc : Region.chainB md ops n = true) (hn : n < ops.size) (hin : i < n)
    (hdone : ∀ listed b, L listed b → ∀ j ∈ Region.ready md ops listed, n ≤ j) :
    ∀ (f : Nat) (listed : Array Bool) (b : Act), HeadInv md ops n listed →
      (∀ j oj, ops[j]? = some oj → j ≠ i → listed.getD j true = false → (∀ e ∈ oj.after, Region.binds md e = true → e.on ≠ i) → oi.apart ops oj = true) →
      i ∈ Region.ready md ops listed → YieldsL P ops Z ls V oi v b →
      wpAnyLT P md ops Z ls V n L f (listed.setIfInBounds i true) (b.put oi.dst v) → wpAnyLT P md ops Z ls V n L (f + 1) listed b := by
  intro f
  induction f with
  | zero =>
    intro listed b inv _ hr hy H
    have hun := (mem_ready.1 hr).1
    refine ⟨fun h => (by rw [h] at hr; cases hr), fun j hj => ?_⟩
    have hjn : j < n := by
      rcases Nat.lt_or_ge j n with h | h
      · exact h
      · exact absurd hj (tail_waits hs hc hn inv _ i rfl hin hun j h)
    refine ⟨hjn, ?_⟩
    by_cases hji : j = i
    · subst hji; exact hy.lOp hi H
    · have := hdone _ _ H j (ready_mono hj hji)
      omega
  | succ f ih =>
    intro listed b inv hfree hr hy H
    have hun := (mem_ready.1 hr).1
    refine ⟨fun h => (by rw [h] at hr; cases hr), fun j hj => ?_⟩
    have hjn : j < n := by
      rcases Nat.lt_or_ge j n with h | h
      · exact h
      · exact absurd hj (tail_waits hs hc hn inv _ i rfl hin hun j h)
    refine ⟨hjn, ?_⟩
    by_cases hji : j = i
    · subst hji; exact hy.lOp hi H
    · have h1 := (H.2 j (ready_mono hj hji)).2
      obtain ⟨hjun, oj, hoj, hall⟩ := mem_ready.1 hj
      have hnot : ∀ e ∈ oj.after, Region.binds md e = true → e.on ≠ i := fun e he hb heq => by
        have h1 := hall e he hb
        rw [heq, getD_both hun] at h1
        cases h1
      have h2 := lOp_put hoj (hfree j oj hoj hji hjun hnot) hy h1
      have hfree' : ∀ k ok, ops[k]? = some ok → k ≠ i → (listed.setIfInBounds j true).getD k true = false →
          (∀ e ∈ ok.after, Region.binds md e = true → e.on ≠ i) → oi.apart ops ok = true := fun k ok hk hki hun hno => by
        refine hfree k ok hk hki ?_ hno
        by_cases hjk : j = k
        · subst hjk; exact hjun
        · rw [getD_set_ne true hjk] at hun; exact hun
      refine lOp_mono (fun b' h3 => ih (listed.setIfInBounds j true) b' (inv.set hj hjn) hfree' (ready_mono hr (Ne.symm hji)) h3.1 ?_) h2
      rw [Array.setIfInBounds_comm _ _ hji]
      exact h3.2
theorem wpAnyLT_lex {n g : Nat} {Lq : Act → Prop} (hs : Region.sinkB md ops n = true) (hc : Region.chainB md ops n = true) (hn : n < ops.size) :
    ∀ (l : List Oper) (k : Nat) (listed : Array Bool) (b : Act), (∀ j, j < l.length → l[j]? = ops[k + j]?) → k + l.length = n → HeadInv md ops n listed →
    Region.lexHead md ops g l.length k listed = true → wpLoud P ops Z ls V Lq l b →
    wpAnyLT P md ops Z ls V n (fun listed' b' => Region.seqB md ops g n listed' = true ∧ Lq b') l.length listed b
  | [], k, listed, b, _, hk, _, hB, h => by
    have : k = n := by simpa using hk
    subst this
    exact ⟨by simpa [Region.lexHead] using hB, h⟩
  | o :: l, k, listed, b, hl, hk, inv, hB, h => by
    have h0 : ops[k]? = some o := by simpa using (hl 0 (by simp)).symm
    simp only [List.length_cons, Region.lexHead, Bool.and_eq_true] at hB
    obtain ⟨⟨hr, hf⟩, hB'⟩ := hB
    have hkn : k < n := by simp only [List.length_cons] at hk; omega
    have hr' : k ∈ Region.ready md ops listed := by simpa using hr
    have hst : lOp P ops Z ls V k (wpLoud P ops Z ls V Lq l) b := by unfold lOp; simp only [h0]; exact h
    obtain ⟨v, hy, hK⟩ := yieldsL_of h0 hst
    exact wpAnyLT_first h0 hs hc hn hkn (fun listed' a' hL => seqB_ready hL.1) l.length listed b inv (Region.free_spec h0 hf) hr' hy
      (wpAnyLT_lex hs hc hn l (k + 1) _ _ (fun j hj => by have := hl (j + 1) (by simp; omega); simpa [Nat.add_assoc, Nat.add_comm 1 j] using this) (by simp only [List.length_cons] at hk; omega) (inv.set hr' hkn) hB' hK)
theorem wp_region_loudTail (n : Nat) (Z : World) (ls : List Tmp) (V : Tmp → Value → World → Prop) {id : Nat} {Q : Exit → Act → World → Prop} {a : Act} {w : World} {l : List Oper} (hm : P.follows .mixedOrders = true) (hB : Region.lexTailB .any l.toArray n = true) (hG : guardsB l.toArray ls = true) (hI : idleB a ls = true)
    (hV : ∀ k u w w', V k u w → Below w.heap.size w w' → V k u w') (hC : Below Z.heap.size Z w.drew)
    (h : wpLoud P l.toArray Z ls V (fun b => ∀ a' w', Below Z.heap.size Z w' → Sim ls V b a' w' → wpList P l.toArray Q (l.drop n) a' w') (l.take n) a) : (Code.region id l.toArray true).wp P Q a w := by
  simp only [Region.lexTailB, Bool.and_eq_true, decide_eq_true_eq] at hB
  obtain ⟨⟨⟨⟨hsel, hn⟩, hs⟩, hc⟩, hlex⟩ := hB
  have hn' : n < l.length := by simpa using hn
  have htl : (l.take n).length = n := by simp; omega
  have hdl : (l.drop n).length = l.toArray.size - n := by simp
  have inv0 : HeadInv .any l.toArray n (Array.replicate l.toArray.size false) :=
    ⟨by simp, fun j oj _ hl => (by rw [getD_replicate_false] at hl; cases hl), fun t _ ht => getD_in (by simpa using ht) (getD_replicate_false _ _)⟩
  have H := wpAnyLT_lex (P := P) (Z := Z) (ls := ls) (V := V) (md := .any) (g := l.toArray.size - n) hs hc hn (l.take n) 0 _ a (fun j hj => by
    have hj' : j < n := by rw [htl] at hj; exact hj
    simp [hj']) (by simpa using htl) inv0 (by rw [htl]; exact hlex) h
  refine wp_region_any hm ?_
  have := wpAny_of_loudHead (Q' := Q) (g := l.toArray.size - n) hV hG (fun listed b' a' w' hC' hS hL => by
    have := wpAny_of_seq (md := .any) (Q' := Q) (l.drop n) n listed a' w' (fun j => by simp [List.getElem?_drop]) (by rw [hdl]; exact hL.1) (hL.2 a' w' hC' hS)
    rwa [hdl] at this) _ _ a a w.drew hC (idle_sim hI) H
  rw [htl, show n + (l.toArray.size - n) = l.toArray.size by omega] at this
  exact this
/-- the frame with what the loud calls handed back -/
def fill (g : Tmp → Value) : List Tmp → Act → Act
  | [], b => b
  | k :: ks, b => fill g ks (b.put (some k) (g k))
theorem fill_size (g : Tmp → Value) : ∀ (ls : List Tmp) (b : Act), (fill g ls b).tmps.size = b.tmps.size ∧ (fill g ls b).defers = b.defers
  | [], b => ⟨rfl, rfl⟩
  | k :: ks, b => by
    have := fill_size g ks (b.put (some k) (g k))
    exact ⟨this.1.trans (by simp [Act.put]), this.2⟩
theorem fill_eval (g : Tmp → Value) (k : Tmp) : ∀ (ls : List Tmp) (b : Act), k < b.tmps.size → (fill g ls b).eval (.tmp k) = if ls.contains k then g k else b.eval (.tmp k)
  | [], b, _ => rfl
  | j :: ks, b, hk => by
    have h1 := fill_eval g k ks (b.put (some j) (g j)) (by simpa [Act.put] using hk)
    show (fill g ks (b.put (some j) (g j))).eval (.tmp k) = _
    rw [h1, eval_put_at]
    by_cases h2 : k = j
    · subst h2
      rw [if_pos (c := k = k ∧ _) ⟨rfl, hk⟩]
      simp
    · rw [if_neg (c := k = j ∧ _) (fun h => h2 h.1)]
      have h3 : (j :: ks).contains k = ks.contains k := by
        rw [List.contains_cons]
        have h4 : (k == j) = false := by simpa using h2
        rw [h4]; rfl
      rw [h3]
theorem Sim.filled {b a : Act} {w : World} (h : Sim ls V b a w) : a = fill (fun k => a.eval (.tmp k)) ls b := by
  obtain ⟨s1, s2⟩ := fill_size (fun k => a.eval (.tmp k)) ls b
  have ht : a.tmps = (fill (fun k => a.eval (.tmp k)) ls b).tmps := by
    apply Array.ext
    · rw [s1, h.sz]
    · intro k h1 h2
      have hk : k < b.tmps.size := by rw [← h.sz]; exact h1
      have h3 := fill_eval (fun k => a.eval (.tmp k)) k ls b hk
      have e1 : a.tmps[k] = a.eval (.tmp k) := by simp [Act.eval, h1]
      have e2 : ∀ (c : Act) (h : k < c.tmps.size), c.tmps[k] = c.eval (.tmp k) := fun c h => by simp [Act.eval, h]
      rw [e1, e2, h3]
      cases hc : ls.contains k
      · exact (h.at_ k).2 hc
      · rfl
  have hd : a.defers = (fill (fun k => a.eval (.tmp k)) ls b).defers := by rw [s2, h.de]
  generalize fill (fun k => a.eval (.tmp k)) ls b = c at *
  cases a
  cases c
  simp only at ht hd
  rw [ht, hd]
theorem wpLoud_end {Φ : Act → World → Prop} {b : Act} (need : List Tmp) (hn : (need.all fun k => ls.contains k && isTok (b.eval (.tmp k))) = true)
    (h : ∀ (g : Tmp → Value) (x : Ext Z), (∀ k ∈ need, V k (g k) x.wd) → Φ (fill g ls b) x.wd) : wpLoud P ops Z ls V (fun b => ∀ a' w', Below Z.heap.size Z w' → Sim ls V b a' w' → Φ a' w') [] b := by
  intro a' w' hb hs
  rw [hs.filled]
  refine h _ ⟨w', hb⟩ fun k hk => ?_
  have h1 := List.all_eq_true.1 hn k hk
  rw [Bool.and_eq_true] at h1
  exact (hs.at_ k).1 h1.1 (isTok_eq h1.2)
/-! steps -/
variable {Q : Act → Prop} {b : Act} {o : Oper} {rest : List Oper}
theorem wpLoud_skip (hw : Region.wanted o (yielded ops b.tmps) = false) (b' : Act) (hb : b.put o.dst undef = b') (h : wpLoud P ops Z ls V Q rest b') : wpLoud P ops Z ls V Q (o :: rest) b := by
  subst hb
  unfold wpLoud
  rw [if_neg (by rw [hw]; exact Bool.false_ne_true)]
  exact h
def plainOp : Op → Bool
  | .move _ | .assign _ | .pick _ _ _ | .load _ _ | .binOp _ _ _ _ _ | .unOp _ _ _ | .convert _ _ _ | .fieldAddr _ _ _ | .indexAddr _ _ _ | .extract _ _ | .slice _ _ _ _ _ | .index _ _ _ | .field _ _ _ => true
  | _ => false
def quietB (ops : Array Oper) (ls : List Tmp) (o : Oper) : Bool := (o.looksAt ops).all (fun k => !ls.contains k) && (match o.dst with | some d => !ls.contains d | none => true)
theorem notEnter {α : Type} (s : Sem α) (g : α → Value) (w w' : World) (f : FuncId) (args : Array Value) : ((do pure (.value (g (← s))) : Sem Next)).run P w ≠ .ok (.enter f args) w' := by
  rw [Sem.run_bind]
  cases s.run P w with
  | ok u w1 => simp [Result.andThen]
  | halt x w1 => simp [Result.andThen]
theorem plain_run {ρ : Operand → Value} (hp : plainOp o.op = true) (w w' : World) (f : FuncId) (args : Array Value) : (execOp ρ o).run P w ≠ .ok (.enter f args) w' := by
  obtain ⟨dst, op, type, pos, after, guard⟩ := o
  cases op <;> simp only [plainOp] at hp <;> (try cases hp)
  case move x => simp [execOp]
  case assign x => simp [execOp]
  case pick c x y => exact notEnter (asBool (ρ c)) (fun t => if t then ρ x else ρ y) w w' f args
  all_goals exact notEnter _ (fun t => t) w w' f args
theorem simAt_eval {b a : Act} {w : World} (hq : quietB ops ls o = true) (hs : ∀ k ∈ o.looksAt ops, SimAt ls V b a w k) : ∀ x ∈ o.op.operands, a.eval x = b.eval x := fun x hx => by
  unfold quietB at hq
  rw [Bool.and_eq_true] at hq
  cases x with
  | tmp k =>
    have hk : k ∈ o.looksAt ops := List.mem_append_left _ (List.mem_filterMap.2 ⟨.tmp k, by simpa using hx, rfl⟩)
    have h1 := List.all_eq_true.1 hq.1 k hk
    exact (hs k hk).2 (by simpa using h1)
  | const v => rfl
  | global v => rfl
  | func v => rfl
theorem quietB_dst (hq : quietB ops ls o = true) : ∀ d, o.dst = some d → ls.contains d = false := fun d hd => by
  unfold quietB at hq
  rw [Bool.and_eq_true, hd] at hq
  simpa using hq.2
theorem wpLoud_val (hw : Region.wanted o (yielded ops b.tmps) = true) (hq : quietB ops ls o = true) (hsel : ∀ cs t, o.op ≠ .select cs t) (v : Value) (hr : ∀ x : Ext Z, (execOp b.eval o).run P x.wd = .ok (.value v) x.wd)
    (b' : Act) (hb : b.put o.dst v = b') (h : wpLoud P ops Z ls V Q rest b') : wpLoud P ops Z ls V Q (o :: rest) b := by
  subst hb
  unfold wpLoud
  rw [if_pos hw]
  refine ⟨v, fun a w hC hs => ?_, h⟩
  rw [execOp_congr o hsel (simAt_eval hq hs), show (execOp b.eval o).run P w = .ok (.value v) w from hr ⟨w, hC⟩]
  exact .inl ⟨rfl, rfl, quietB_dst hq⟩
theorem wpLoud_plain (hw : Region.wanted o (yielded ops b.tmps) = true) (hq : quietB ops ls o = true) (hp : plainOp o.op = true)
    (h : ∀ K : Act → Prop, (∀ b, wpLoud P ops Z ls V Q rest b → K b) → o.quiet P b (fun w => ∃ x : Ext Z, w = x.wd) K) : wpLoud P ops Z ls V Q (o :: rest) b := by
  unfold wpLoud
  rw [if_pos hw]
  obtain ⟨v, h1, h2⟩ := h _ (fun _ h => h)
  refine ⟨v, fun a w hC hs => ?_, h2⟩
  have hsel : ∀ cs t, o.op ≠ .select cs t := fun cs t he => by rw [he] at hp; cases hp
  have h3 := h1 w ⟨⟨w, hC⟩, rfl⟩
  rw [execOp_congr o hsel (simAt_eval hq hs)]
  unfold Oper.quietAt at h3
  have hne := plain_run (P := P) (ρ := b.eval) hp w
  have hnk : ∀ w', (execOp b.eval o).run P w ≠ .ok .skip w' := by
    obtain ⟨dst, op, type, pos, after, guard⟩ := o
    have key : ∀ {α : Type} (s : Sem α) (g : α → Value) (w' : World), ((do pure (.value (g (← s))) : Sem Next)).run P w ≠ .ok .skip w' := by
      intro α s g w'
      rw [Sem.run_bind]
      cases s.run P w with
      | ok u w1 => simp [Result.andThen]
      | halt x w1 => simp [Result.andThen]
    intro w'
    cases op <;> simp only [plainOp] at hp <;> (try cases hp)
    case move x => simp [execOp]
    case assign x => simp [execOp]
    case pick c x y => exact key (asBool (b.eval c)) (fun t => if t then b.eval x else b.eval y) w'
    all_goals exact key _ (fun t => t) w'
  generalize (execOp b.eval o).run P w = r at *
  cases r with
  | ok n w' =>
    cases n <;> simp only [Oper.quietUpon] at h3
    case value u => exact .inl ⟨h3.1, h3.2, quietB_dst hq⟩
    case skip => exact absurd rfl (hnk w')
    case enter f args => exact absurd rfl (hne w' f args)
  | halt x w' => simp only [Oper.quietUpon] at h3
theorem wpLoud_load (hw : Region.wanted o (yielded ops b.tmps) = true) (hq : quietB ops ls o = true) (ty : TypeId) (x : Operand) (ho : o.op = .load ty x) (n off : Nat) (hx : b.eval x = .pointer (some ⟨n, off, none⟩)) (cs : List Value) (d : TypeDesc)
    (hc : ∀ y : Ext Z, y.wd.rangeAt n off cs) (hu : P.underlying ty = some d) (hd : d.isRow = true) (hi : (P.info? ty).map (·.size) = some cs.length)
    (b' : Act) (hb : b.put o.dst (.agg cs.toArray) = b') (h : wpLoud P ops Z ls V Q rest b') : wpLoud P ops Z ls V Q (o :: rest) b :=
  wpLoud_val hw hq (fun cs t he => by rw [ho] at he; cases he) _ (fun y => by
    unfold execOp
    simp only [ho, hx, Instr.loadAt, Instr.sureAddr, Sem.run_bind, Sem.run_pure, Result.andThen_ok, run_loadVar_mid y.wd n off ty cs d (hc y) hu hd hi]) b' hb h
/-- an operation that makes memory -/
theorem wpLoud_make (hw : Region.wanted o (yielded ops b.tmps) = true) (hsel : ∀ cs t, o.op ≠ .select cs t) (hq : ((o.looksAt ops).all fun k => !ls.contains k) = true) (d : Tmp) (hd : o.dst = some d) (hl : ls.contains d = true)
    (hr : ∀ x : Ext Z, ∃ u w', (execOp b.eval o).run P x.wd = .ok (.value u) w' ∧ Below x.wd.heap.size x.wd w' ∧ V d u w')
    (b' : Act) (hb : b.put o.dst tok = b') (h : wpLoud P ops Z ls V Q rest b') : wpLoud P ops Z ls V Q (o :: rest) b := by
  subst hb
  unfold wpLoud
  rw [if_pos hw]
  refine ⟨tok, fun a w hC hs => ?_, h⟩
  have he : ∀ x ∈ o.op.operands, a.eval x = b.eval x := fun x hx => by
    cases x with
    | tmp k =>
      have hk : k ∈ o.looksAt ops := List.mem_append_left _ (List.mem_filterMap.2 ⟨.tmp k, by simpa using hx, rfl⟩)
      exact (hs k hk).2 (by simpa using List.all_eq_true.1 hq k hk)
    | const v => rfl
    | global v => rfl
    | func v => rfl
  obtain ⟨u, w', h1, h2, h3⟩ := hr ⟨w, hC⟩
  rw [execOp_congr o hsel he, show (execOp b.eval o).run P w = .ok (.value u) w' from h1]
  exact .inr ⟨h2, fun d' hd' => by rw [hd] at hd'; injection hd' with hd'; subst hd'; exact ⟨hl, h3⟩⟩
/-- what a loud call handed back, moved -/
theorem wpLoud_move (hw : Region.wanted o (yielded ops b.tmps) = true) (k d : Tmp) (ho : o.op = .assign (.tmp k) ∨ o.op = .move (.tmp k)) (hd : o.dst = some d) (hk : ls.contains k = true) (hl : ls.contains d = true) (ht : isTok (b.eval (.tmp k)) = true) (hV : ∀ u w, V k u w → V d u w)
    (b' : Act) (hb : b.put o.dst tok = b') (h : wpLoud P ops Z ls V Q rest b') : wpLoud P ops Z ls V Q (o :: rest) b := by
  subst hb
  unfold wpLoud
  rw [if_pos hw]
  refine ⟨tok, fun a w hC hs => ?_, h⟩
  have hrun : (execOp a.eval o).run P w = .ok (.value (a.eval (.tmp k))) w := by
    rcases ho with ho | ho <;> · unfold execOp; simp only [ho, Sem.run_pure]
  have hm : k ∈ o.looksAt ops := by
    unfold Oper.looksAt
    rcases ho with ho | ho <;> · rw [ho]; simp [Op.operands]
  have hv := (hs k hm).1 hk (isTok_eq ht)
  rw [hrun]
  exact .inr ⟨Below.refl _ _, fun d' hd' => by rw [hd] at hd'; injection hd' with hd'; subst hd'; exact ⟨hl, hV _ _ hv⟩⟩
theorem wpLoud_loadB (hw : Region.wanted o (yielded ops b.tmps) = true) (hq : quietB ops ls o = true) (ty : TypeId) (x : Operand) (ho : o.op = .load ty x) (n off : Nat) (hx : b.eval x = .pointer (some ⟨n, off, none⟩)) (cs : Array Value) (d : TypeDesc)
    (hc : ∀ y : Ext Z, y.wd.rangeAt n off cs.toList) (hu : P.underlying ty = some d) (hd : d.isRow = true) (hi : (P.info? ty).map (·.size) = some cs.toList.length)
    (b' : Act) (hb : b.put o.dst (.agg cs) = b') (h : wpLoud P ops Z ls V Q rest b') : wpLoud P ops Z ls V Q (o :: rest) b :=
  wpLoud_load hw hq ty x ho n off hx cs.toList d hc hu hd hi b' (by rw [Array.toArray_toList]; exact hb) h
def over (ls : List Tmp) (b : Act) (g : Tmp → Value) : Operand → Value
  | .tmp k => if ls.contains k then g k else b.eval (.tmp k)
  | x => b.eval x
/-- a call, by its contract -/
theorem wpLoud_call (d : Tmp) (hd : o.dst = some d) (need : List Tmp) (v : Value) (f : FuncId) (args : (Tmp → Value) → Array Value) (hw : Region.wanted o (yielded ops b.tmps) = true) (hsel : ∀ cs t, o.op ≠ .select cs t)
    (hn : (need.all fun k => ls.contains k && ((o.looksAt ops).contains k && isTok (b.eval (.tmp k)))) = true)
    (hrun : ∀ (g : Tmp → Value) w, (execOp (over ls b g) o).run P w = .ok (.enter f (args g)) w)
    (hc : ∀ (g : Tmp → Value) (x : Ext Z), (∀ k ∈ need, V k (g k) x.wd) → Calls P f (args g) x.wd fun e w'' => ∃ u, e = .returned u ∧ Below x.wd.heap.size x.wd w'' ∧ (if ls.contains d then V d u w'' else u = v))
    (b' : Act) (hb : b.put o.dst v = b') (h : wpLoud P ops Z ls V Q rest b') : wpLoud P ops Z ls V Q (o :: rest) b := by
  subst hb
  unfold wpLoud
  rw [if_pos hw]
  refine ⟨v, fun a w hC hs => ?_, h⟩
  have he : ∀ x ∈ o.op.operands, a.eval x = over ls b (fun k => a.eval (.tmp k)) x := fun x hx => by
    cases x with
    | tmp k =>
      have hk : k ∈ o.looksAt ops := List.mem_append_left _ (List.mem_filterMap.2 ⟨.tmp k, by simpa using hx, rfl⟩)
      show _ = if ls.contains k then _ else _
      cases hcn : ls.contains k
      · exact (hs k hk).2 hcn
      · rfl
    | const v => rfl
    | global v => rfl
    | func v => rfl
  rw [execOp_congr o hsel he, hrun]
  refine ⟨rfl, (hc _ ⟨w, hC⟩ fun k hk => ?_).mono ?_⟩
  · have h1 := List.all_eq_true.1 hn k hk
    simp only [Bool.and_eq_true] at h1
    exact (hs k (by simpa using h1.2.1)).1 h1.1 (isTok_eq h1.2.2)
  · rintro e w'' ⟨u, h1, h2, h3⟩
    refine ⟨u, h1, h2, fun d' hd' => ?_⟩
    rw [hd] at hd'
    injection hd' with hd'
    subst hd'
    exact ⟨fun h4 => by rwa [if_pos h4] at h3, fun h4 => by rwa [if_neg (by rw [h4]; exact Bool.false_ne_true)] at h3⟩
end
end Go.Proofs.YtdbfikcpaionbaaDoor
/- Contracts: the start; the fingerprint. -/
namespace Go.Proofs.YtdbfikcpaionbaaDoor
open Go.RowKit
set_option linter.unusedVariables false
set_option maxRecDepth 100000 in
set_option maxHeartbeats 1000000 in
theorem start_c (w : World) : Calls Tryd.prog 44 #[] w fun e w' => e = .returned (.agg (vw h0)) ∧ Below w.heap.size w w' := by
  have zf := zero_8
  have zs1 : z8w.size = 8 := by rfl
  have zs2 : ¬ z8w = #[] := by intro h; have := congrArg Array.size h; rw [zs1] at this; cases this
  have HI := Lib.hid (show (Tryd.prog.info? 80).map (·.size) = some (vw h0).size by kernel_rfl)
  go_enter Tryd.func44, Tryd.ntmps44
  go_wp2_with (refine wpList_store_rowTo rfl 80 (.tmp 0) (.tmp 1) rfl rfl w.heap.size (vw h0) rfl rfl 80 z8w (by exact heap_alloc_new _ _) HI.out rfl (vw_one _) ?_)
  refine bodyPost_ret (results_cell_row rfl _ _ w.heap.size 80 (vw h0) (0, 0) _ rfl (setRow_heap _ _ z8w _ 80 (0, 0) (heap_alloc_new _ _)) Tryd.underlying80 rfl HI.out) rfl ?_
  exact ⟨rfl, ((Below.refl _ _).alloc (Nat.le_refl _) _).trans ⟨rfl, rfl, rfl, by simp [World.setRow], fun i hi => setRow_other _ _ i _ (by omega)⟩⟩
/-- how long a slice is -/
def lenOf : Value → Nat
  | .slice _ n _ => n
  | _ => 0
theorem i64_and63 (n : Int) : bits .and .i64 n 63 = n % 64 := by
  have h63 : (BitVec.ofInt 64 63).toNat = 2 ^ 6 - 1 := by decide
  have key : (BitVec.ofInt 64 n &&& BitVec.ofInt 64 63).toNat = (n % ((2 ^ 64 : Nat) : Int)).toNat % 2 ^ 6 := by
    rw [BitVec.toNat_and, BitVec.toNat_ofInt, h63, Nat.and_two_pow_sub_one_eq_mod]
  show IntKind.i64.wrap ((BitVec.ofInt 64 n &&& BitVec.ofInt 64 63).toNat : Nat) = n % 64
  rw [key, IntKind.wrap_i64]
  omega
theorem OwnB.lenOf {w : World} {base : Nat} {v : Value} {l : List Nat} (h : OwnB w base v l) : lenOf v = l.length := by
  obtain ⟨A, c, e, _⟩ := h.rd
  rw [e]; rfl
def zSum : Array Value := vb (List.replicate 32 0)
theorem zero_sum (w : World) : (zeroValue 28).run Tryd.prog w = .ok (.agg zSum) w := by kernel_rfl
theorem zs_at (m j : Nat) (h : j < zs m) : ((m + 1 + j : Nat) : Int) % 64 ≠ 56 := by unfold zs at h; omega
theorem zs_end (m : Nat) : ((m + 1 + zs m : Nat) : Int) % 64 = 56 := by unfold zs; omega
theorem zs_lt (m : Nat) : zs m < 64 := by unfold zs; omega
/-- the padding as far as it is laid -/
def padZ (m : List Nat) (j : Nat) : List Nat := m ++ [128] ++ List.replicate j 0
theorem padZ_len (m : List Nat) (j : Nat) : (padZ m j).length = m.length + 1 + j := by simp [padZ]; omega
theorem padZ_succ (m : List Nat) (j : Nat) : padZ m (j + 1) = padZ m j ++ [0] := by
  unfold padZ
  rw [List.replicate_succ', ← List.append_assoc]
theorem high_take (S : Nat) : high S 8 = [S / 72057594037927936 % 256, S / 281474976710656 % 256, S / 1099511627776 % 256, S / 4294967296 % 256, S / 16777216 % 256, S / 65536 % 256, S / 256 % 256, S % 256] := by
  simp only [high, List.nil_append, List.cons_append, Nat.div_div_eq_div_mul]
theorem high_at8 (S i : Nat) (h : i < 8) : (high S 8).getD i 0 = S / 2 ^ (56 - 8 * i) % 256 := by
  rw [high_take]
  match i, h with
  | 0, _ => rfl
  | 1, _ => rfl
  | 2, _ => rfl
  | 3, _ => rfl
  | 4, _ => rfl
  | 5, _ => rfl
  | 6, _ => rfl
  | 7, _ => simp
theorem pad_lt {m : List Nat} (h : ∀ c ∈ m, c < 256) : ∀ c ∈ pad m, c < 256 := by
  intro c hc
  unfold pad at hc
  simp only [List.mem_append] at hc
  rcases hc with ((hc | hc) | hc) | hc
  · exact h c hc
  · rw [List.mem_singleton.1 hc]; decide
  · rw [List.eq_of_mem_replicate hc]; decide
  · exact high_lt _ _ c hc
theorem rangeAt_vw {w : World} {g : Nat} {t : TypeId} {l : List Nat} (h : Blk w g t (vw l)) : w.rangeAt g 0 (vw l).toList := fun j u hu => by
  rw [Nat.zero_add, h.cell]
  simpa using hu
theorem Rd.take_ {w : World} {B : Nat} {A : Option Addr} {l : List Nat} (h : Rd w B A (byt l)) (k : Nat) : Rd w B A (byt (l.take k)) := fun hn => by
  obtain ⟨ad, e, hb, hc⟩ := h (fun h0 => hn (by unfold byt at h0 ⊢; rw [List.map_take, h0, List.take_nil]))
  refine ⟨ad, e, hb, fun j u hu => hc j u ?_⟩
  unfold byt at hu ⊢
  rw [List.map_take, List.getElem?_take] at hu
  split at hu
  · exact hu
  · cases hu
theorem Rd.drop64 {w : World} {B : Nat} {A : Addr} {l : List Nat} (h : Rd w B (some A) (byt l)) : Rd w B (some ⟨A.block, A.off + 64, none⟩) (byt (l.drop 64)) := fun hn => by
  obtain ⟨ad, e, hb, hc⟩ := h (fun h0 => hn (by unfold byt at h0 ⊢; rw [List.map_drop, h0, List.drop_nil]))
  injection e with e
  subst e
  refine ⟨_, rfl, hb, fun j u hu => ?_⟩
  have h1 := hc (64 + j) u (by unfold byt at hu ⊢; rw [List.map_drop, List.getElem?_drop] at hu; exact hu)
  have e1 : (Addr.add ⟨A.block, A.off + 64, none⟩ j) = A.add (64 + j) := by
    unfold Addr.add
    split
    · subst_vars; simp
    · simp; omega
  rw [e1]; exact h1
theorem u64_and3 (n : Int) : bits .and .u64 n 3 = n % 4 := by
  have h63 : (BitVec.ofInt 64 3).toNat = 2 ^ 2 - 1 := by decide
  have key : (BitVec.ofInt 64 n &&& BitVec.ofInt 64 3).toNat = (n % ((2 ^ 64 : Nat) : Int)).toNat % 2 ^ 2 := by
    rw [BitVec.toNat_and, BitVec.toNat_ofInt, h63, Nat.and_two_pow_sub_one_eq_mod]
  show IntKind.u64.wrap ((BitVec.ofInt 64 n &&& BitVec.ofInt 64 3).toNat : Nat) = n % 4
  rw [key, IntKind.wrap_u64]
  omega
theorem getD_mem (l : List Nat) (i : Nat) (h : i < l.length) : l.getD i 0 ∈ l := by
  rw [List.getD_eq_getElem?_getD, List.getElem?_eq_getElem h]
  exact List.getElem_mem _
theorem vb_at (l : List Nat) (i : Nat) (h : i < l.length) : (vb l)[i]? = some (.int .u8 (l.getD i 0 : Nat)) := by
  simp [vb, byt, List.getD_eq_getElem?_getD, h]
theorem vb_one (l : List Nat) : (vb l).all (·.oneCell') = true := by
  simp [vb, byt, Value.oneCell']
theorem high4 (n : Nat) : high n 4 = [n / 16777216 % 256, n / 65536 % 256, n / 256 % 256, n % 256] := by
  simp only [high, List.nil_append, List.cons_append, Nat.div_div_eq_div_mul]
theorem flat4_at (H : List Nat) : ∀ k, k / 4 < H.length → (H.flatMap fun w => high w 4).getD k 0 = H.getD (k / 4) 0 / 2 ^ (24 - 8 * (k % 4)) % 256 := by
  induction H with
  | nil => intro k h; simp at h
  | cons a H ih =>
    intro k h
    rw [List.flatMap_cons]
    rcases Nat.lt_or_ge k 4 with h4 | h4
    · rw [high4]
      match k, h4 with
      | 0, _ => rfl
      | 1, _ => rfl
      | 2, _ => rfl
      | 3, _ => simp
    · have h1 := ih (k - 4) (by simp at h; omega)
      rw [List.getD_eq_getElem?_getD, List.getElem?_append_right (by rw [high_len]; exact h4), high_len, ← List.getD_eq_getElem?_getD, h1]
      rw [show k / 4 = (k - 4) / 4 + 1 by omega, show (k - 4) % 4 = k % 4 by omega]
      simp
/-- what is laid of a row -/
def outZ (s : List Nat) (k : Nat) : List Nat := s.take k ++ List.replicate (s.length - k) 0
theorem outZ_zero {s : List Nat} {n : Nat} (h : s.length = n) : outZ s 0 = List.replicate n 0 := by simp [outZ, h]
theorem outZ_end (s : List Nat) : outZ s s.length = s := by simp [outZ]
theorem outZ_set (s : List Nat) (k : Nat) (h : k < s.length) : (outZ s k).set k (s.getD k 0) = outZ s (k + 1) := by
  unfold outZ
  have h1 : (s.take k).length = k := by simp; omega
  rw [List.set_append_right _ _ (by omega), h1, Nat.sub_self, show s.length - k = (s.length - (k + 1)) + 1 by omega, List.replicate_succ, List.set_cons_zero, List.take_add_one, List.getElem?_eq_getElem h, List.append_assoc]
  rw [show s.getD k 0 = s[k] by rw [List.getD_eq_getElem?_getD, List.getElem?_eq_getElem h]; rfl]
  rfl
theorem outZ_len (s : List Nat) (k : Nat) (h : k ≤ s.length) : (outZ s k).length = s.length := by simp [outZ]; omega
structure OutS (Z W : World) (B O : Nat) (H s : List Nat) (k : Nat) : Prop where
  bel : Below Z.heap.size Z W
  hB : Blk W B 80 (vw H)
  hO : Blk W O 28 (vb (outZ s k))
/-- the padding with the size's bytes as far as they are laid -/
def padS (m : List Nat) (i : Nat) : List Nat := padZ m (zs m.length) ++ (high (8 * m.length) 8).take i
theorem padS_zero (m : List Nat) : padS m 0 = padZ m (zs m.length) := by simp [padS]
theorem padS_end (m : List Nat) : padS m 8 = pad m := by
  unfold padS
  rw [List.take_of_length_le (by rw [high_len]; exact Nat.le_refl _)]
  rfl
theorem padS_len (m : List Nat) (i : Nat) (h : i ≤ 8) : (padS m i).length = m.length + 1 + zs m.length + i := by
  simp only [padS, List.length_append, padZ_len, List.length_take, high_len]; omega
theorem padS_succ (m : List Nat) (i : Nat) (h : i < 8) : padS m (i + 1) = padS m i ++ [(high (8 * m.length) 8).getD i 0] := by
  unfold padS
  rw [List.append_assoc, List.take_add_one, List.getElem?_eq_getElem (by rw [high_len]; exact h)]
  simp [List.getD_eq_getElem?_getD, high_len, h]
set_option maxRecDepth 100000 in
set_option maxHeartbeats 2000000 in
theorem of_c (g n cap : Nat) (ps : List Part) (m : List Nat) (w : World) (hm : cat ps n = m) (hml : ∀ c ∈ m, c < 256) (hn : ps.length = n) (hcells : ∀ k (h : k < ps.length), w.cell? ⟨g, k, none⟩ = some (pv ps[k])) (hg : g < w.heap.size)
    (hr : ∀ p ∈ ps, Rd w w.heap.size p.1 (byt p.2.2)) (hlen : m.length ≤ 10000) (hn2 : n ≤ 1000) (hcap : n ≤ cap) (ht : ∀ i, i < 64 → w.cell? ⟨0, i, none⟩ = some (.int .u32 (kc.getD i 0 : Nat))) (hw : 0 < w.heap.size) :
    Calls Tryd.prog 35 #[.slice (some ⟨g, 0, none⟩) n cap] w fun e w' => e = .returned (.agg (vb (sha m))) ∧ Below w.heap.size w w' := by
  obtain ⟨i0, hi, hz0, hz1, hz2⟩ := info_parts byteInfo
  have hcon := fun W (hb : Below w.heap.size w W) => concatN_c g n cap ps W hn (fun k h => (hb.cell (p := ⟨g, k, none⟩) hg).trans (hcells k h)) (Nat.lt_of_lt_of_le hg hb.size) (fun p hp => ((hr p hp).below hb).more hb.size) (by rw [hm]; omega) hn2 hcap
  rw [hm] at hcon
  have HCON := Lib.hid hcon
  have HML := Lib.hid hml
  have HLEN := Lib.hid hlen
  have HT := Lib.hid ht
  have HI8 := Lib.hid (show (Tryd.prog.info? 80).map (·.size) = some (vw h0).size by kernel_rfl)
  clear hcon hm hcells hr hml ht
  go_enter Tryd.func35, Tryd.ntmps35
  have zf := zero_sum
  have zs1 : zSum.size = 32 := by rfl
  have zs2 : ¬ zSum = #[] := by intro h; have := congrArg Array.size h; rw [zs1] at this; cases this
  go_upto_region 1 with fail
  obtain ⟨Z, hZ⟩ : ∃ Z, Z = w.alloc (Obj.cells zSum 28) := ⟨_, rfl⟩
  have hbz : Below w.heap.size w Z := by rw [hZ]; exact (Below.refl _ _).alloc (Nat.le_refl _) _
  have h2 : Blk Z w.heap.size 28 zSum := by rw [hZ]; exact Blk.new _ _ _
  rw [← hZ]
  clear hZ zf zs1 zs2
  have HZ := Lib.hid hbz
  have H2 := Lib.hid h2
  clear hbz h2
  have esz : IntKind.u64.wrap ((m.length : Int) * 8) = ((8 * m.length : Nat) : Int) := by simp [IntKind.wrap, IntKind.signed, IntKind.bits]; omega
  have ec : IntKind.u64.wrap (m.length : Int) = (m.length : Int) := by simp [IntKind.wrap, IntKind.signed, IntKind.bits]; omega
  go_step3
  go_wp2_with (first
    | (go_at_call 43; (refine (HCON.out _ HZ.out).mono ?_); rintro e w1 ⟨v1, rfl, ho, hb⟩; obtain ⟨A1, k1, rfl, _, _, _⟩ := ho.rd; have HO1 := Lib.hid (show OwnB w1 Z.heap.size _ m from ho); have HB1 := Lib.hid (show Below Z.heap.size Z w1 from hb); clear ho hb)
    | (at_builtin; refine wpList_app _ rfl (.tmp 15) (.tmp 16) _ rfl Z.heap.size 5 i0 (.int .u8 0) 1 1 Tryd.underlying24 hi hz0 hz1 hz2 rfl (by decide) _ _ _ rfl (HO1.out.alloc _) _ _ 1 1 [.int .u8 (128 : Nat)] rfl rfl (by exact rd_one _ _ _) (byt_one [128]) (by omega) (by omega) (by have := HB1.out.size; simp; omega) ?_; intro v3 w3 hap; have HO3 := Lib.hid (show OwnB w3 Z.heap.size v3 (padZ m 0) from by have h1 := OwnB.snoc hap; simpa [padZ] using h1); have HB3 := Lib.hid (show Below Z.heap.size Z w3 from (HB1.out.alloc HB1.out.size _).trans (hap.below (HO1.out.alloc _) (by have := HB1.out.size; simp; omega))); clear hap))
  go_loopw [3] (fun v wr => ∃ j : Nat, j ≤ zs m.length ∧ OwnB wr Z.heap.size v (padZ m j) ∧ Below Z.heap.size Z wr) (fun v _ => m.length + 1 + zs m.length - lenOf v)
  case atStart => exact ⟨0, Nat.zero_le _, HO3.out, HB3.out⟩
  case round =>
    rename World => wr
    obtain ⟨j, hj, ho, hb⟩ := hrel
    have hzl := zs_lt m.length
    obtain ⟨A4, k4, rfl, _, _, _⟩ := ho.rd
    have HO4 := Lib.hid ho
    have HB4 := Lib.hid hb
    have hL := padZ_len m j
    have h63 := i64_and63 ((padZ m j).length : Int)
    have HL4 := Lib.hid hL
    clear ho hb HO1 HB1 HO3 HB3
    by_cases hlt : j < zs m.length
    · have hne := zs_at m.length j hlt
      rw [← hL] at hne
      have tne : ((((padZ m j).length : Int) % 64) != 56) = true := by rw [bne_iff_ne]; exact hne
      clear hne hL
      have HSU := Lib.hid (padZ_succ m j)
      have HPL := Lib.hid (padZ_len m (j + 1))
      go_wp2_with (at_builtin; refine wpList_app _ rfl (.tmp 22) (.tmp 23) _ rfl Z.heap.size 5 i0 (.int .u8 0) 1 1 Tryd.underlying24 hi hz0 hz1 hz2 rfl (by decide) _ _ _ rfl (HO4.out.alloc _) _ _ 1 1 [.int .u8 (0 : Nat)] rfl rfl (by exact rd_one _ _ _) (byt_one [0]) (by have := HL4.out; have := HLEN.out; omega) (by have := HL4.out; have := HLEN.out; omega) (by have := HB4.out.size; simp; omega) ?_; intro v5 w5 hap; have HO5 := Lib.hid (show OwnB w5 Z.heap.size v5 (padZ m (j + 1)) from by rw [HSU.out]; exact OwnB.snoc hap); have HB5 := Lib.hid (show Below Z.heap.size Z w5 from (HB4.out.alloc HB4.out.size _).trans (hap.below (HO4.out.alloc _) (by have := HB4.out.size; simp; omega))); clear hap)
      refine ⟨⟨j + 1, by omega, HO5.out, HB5.out⟩, ?_⟩
      have := HO5.out.lenOf; have := HPL.out; have := HO4.out.lenOf; have := HL4.out
      omega
    · obtain rfl : j = zs m.length := by omega
      have hend := zs_end m.length
      rw [← hL] at hend
      have tne : ((((padZ m (zs m.length)).length : Int) % 64) != 56) = false := by rw [bne_eq_false_iff_eq]; exact hend
      clear hend hL
      have HNL := Lib.hid (show (padZ m (zs m.length)).length ≤ 20000 by have := HL4.out; have := HLEN.out; omega)
      clear hlen
      go_wp2_with fail
      go_loopw [3, 5] (fun v vi wr => ∃ j : Nat, j ≤ 8 ∧ vi = .int .i64 (56 - 8 * (j : Int)) ∧ OwnB wr Z.heap.size v (padS m j) ∧ Below Z.heap.size Z wr) (fun _ vi _ => match vi with | .int _ n => (n + 8).toNat | _ => 0)
      case atStart => exact ⟨0, Nat.zero_le _, rfl, by rw [padS_zero]; exact HO4.out, HB4.out⟩
      case round =>
        rename World => wt
        obtain ⟨i, hi8, rfl, ho, hb⟩ := hrel
        obtain ⟨A6, k6, rfl, _, _, _⟩ := ho.rd
        have HO6 := Lib.hid ho
        have HB6 := Lib.hid hb
        have HL6 := Lib.hid (padS_len m i hi8)
        clear ho hb HO4 HB4
        by_cases hlt : i < 8
        · have HS6 := Lib.hid (padS_succ m i hlt)
          have HN6 := Lib.hid (show (8 * (m.length : Int) / 2 ^ (56 - 8 * i) % 256) = (((high (8 * m.length) 8).getD i 0 : Nat) : Int) by rw [high_at8 _ _ hlt]; simp)
          go_wp2_with (at_builtin; rw [HN6.out]; refine wpList_app _ rfl (.tmp 29) (.tmp 35) _ rfl Z.heap.size 5 i0 (.int .u8 0) 1 1 Tryd.underlying24 hi hz0 hz1 hz2 rfl (by decide) _ _ _ rfl (HO6.out.alloc _) _ _ 1 1 [.int .u8 ((high (8 * m.length) 8).getD i 0 : Nat)] rfl rfl (by exact rd_one _ _ _) (byt_one [_]) (by have := HL6.out; have := HLEN.out; omega) (by have := HL6.out; have := HLEN.out; omega) (by have := HB6.out.size; simp; omega) ?_; intro v7 w7 hap; have HO7 := Lib.hid (show OwnB w7 Z.heap.size v7 (padS m (i + 1)) from by rw [HS6.out]; exact OwnB.snoc hap); have HB7 := Lib.hid (show Below Z.heap.size Z w7 from (HB6.out.alloc HB6.out.size _).trans (hap.below (HO6.out.alloc _) (by have := HB6.out.size; simp; omega))); clear hap)
          refine ⟨⟨i + 1, by omega, ?_, HO7.out, HB7.out⟩, ?_⟩
          · congr 1; omega
          · show (56 - 8 * (i : Int) - 8 + 8).toNat < (56 - 8 * (i : Int) + 8).toNat; omega
        · obtain rfl : i = 8 := by omega
          have HO8 := Lib.hid (show OwnB wt Z.heap.size _ (pad m) from by have := HO6.out; rw [padS_end] at this; exact this)
          have zf := zero_8
          have zs1 : z8w.size = 8 := by rfl
          have zs2 : ¬ z8w = #[] := by intro h; have := congrArg Array.size h; rw [zs1] at this; cases this
          go_wp2_with (first
            | (go_at_call 44; (refine (start_c _).mono ?_); rintro e w9 ⟨rfl, hb9⟩; have HB9 := Lib.hid hb9; clear hb9)
            | (refine wpList_store_rowTo rfl 80 (.tmp 6) (.tmp 37) rfl rfl w9.heap.size (vw h0) rfl rfl 80 z8w (by exact heap_alloc_new _ _) HI8.out rfl (vw_one _) ?_))
          obtain ⟨Y, hY⟩ : ∃ Y, Y = (w9.alloc (Obj.cells z8w 80)).setRow w9.heap.size (vw h0) := ⟨_, rfl⟩
          obtain ⟨B, hB⟩ : ∃ B, B = w9.heap.size := ⟨_, rfl⟩
          have hzB : Z.heap.size ≤ B := by rw [hB]; exact Nat.le_trans HB6.out.size HB9.out.size
          have hbY : Below B w9 Y := by rw [hY, hB]; exact ((Below.refl _ _).alloc (Nat.le_refl _) _).trans ⟨rfl, rfl, rfl, by simp [World.setRow], fun i hi => setRow_other _ _ i _ (by omega)⟩
          have hblk : Blk Y B 80 (vw h0) := by rw [hY, hB]; exact setRow_heap _ _ z8w _ _ (0, 0) (heap_alloc_new _ _)
          rw [← hY, ← hB]
          obtain ⟨A9, c9, e9, hc9, _, hr9⟩ := HO8.out.rd
          have hBK := Lib.hid hblk
          have hr2 := (hr9.below HB9.out).more HB9.out.size
          rw [← hB] at hr2
          have hr3 := hr2.below hbY
          injection e9 with e91 e92 e93
          subst e91 e93
          have hpl := pad_len m
          have hp64 := pad_64 m
          obtain ⟨ad9, e9a, hb9a, _⟩ := hr3 (by intro h0; have := congrArg List.length h0; rw [byt_len, List.length_nil] at this; omega)
          subst e9a
          obtain ⟨nb, hnb⟩ : ∃ nb, nb = (pad m).length / 64 := ⟨_, rfl⟩
          have hpn : (pad m).length = 64 * nb := by omega
          have hnb0 : 0 < nb := by omega
          have hnbl : nb ≤ 1000 := by have := zs_lt m.length; have := HLEN.out; omega
          have HBL := Lib.hid hblk
          have HRB := Lib.hid hr3
          have HBZ := Lib.hid (show Below Z.heap.size Z Y from (HB6.out.trans (HB9.out.mono HB6.out.size)).trans (hbY.mono hzB))
          have HPN := Lib.hid hpn
          rw [hpn] at hc9
          rw [padS_end, hpn]
          have HPD := Lib.hid (show ∀ c ∈ pad m, c < 256 from pad_lt HML.out)
          clear hblk zf zs1 zs2 hr3 hr2 hr9 hpl hp64 hnb hpn hY hB hbY e92 HB6 HB9 HO6 HO8 HL6
          go_step3
          go_wp2_with fail
          go_loopw [3] (fun v wr => ∃ j r : Nat, j + r + 1 = nb ∧ (∃ A c, v = .slice (some A) (64 * (r + 1)) c ∧ 64 * (r + 1) ≤ c ∧ Rd wr B (some A) (byt ((pad m).drop (64 * j)))) ∧ Blk wr B 80 (vw (fld (pad m) j)) ∧ Below Z.heap.size Z wr) (fun v _ => lenOf v)
          case atStart => exact ⟨0, nb - 1, by omega, ⟨ad9, k6, by rw [show nb - 1 + 1 = nb by omega], by rw [show nb - 1 + 1 = nb by omega]; exact hc9, by simpa using HRB.out⟩, HBL.out, HBZ.out⟩
          case round =>
            clear HBL HRB HBZ hc9
            rename World => wr
            obtain ⟨j, r, hjr, ⟨A, c, rfl, hc, hr⟩, hbl, hb⟩ := hrel
            have HR := Lib.hid hr
            have HBL := Lib.hid hbl
            have HBE := Lib.hid hb
            clear hr hbl hb
            have hc64 : 64 ≤ c := by omega
            have hcz : (64 : Int) ≤ (c : Int) := by omega
            have hr64 : 64 ≤ 64 * (r + 1) := by omega
            have HSP := Lib.hid (fun W (hb : Below wr.heap.size wr W) => step_c B A c (((pad m).drop (64 * j)).take 64) (fld (pad m) j) W (fun c hc => HPD.out c (List.mem_of_mem_drop (List.mem_of_mem_take hc))) (((HR.out.take_ 64).below (hb.mono (Nat.le_of_lt HBL.out.lt)))) (Nat.le_trans (Nat.le_of_lt HBL.out.lt) hb.size) (by rw [List.length_take, List.length_drop, HPN.out]; omega) hc64 (fld_len _ _) (fld_lt _ _) (fun i hi => ((hb.mono (Nat.le_refl _)).cell (p := ⟨0, i, none⟩) (Nat.lt_of_lt_of_le hw (Nat.le_trans (Nat.le_trans HZ.out.size HBE.out.size) (Nat.le_refl _)))).trans ((HBE.out.cell (p := ⟨0, i, none⟩) (Nat.lt_of_lt_of_le hw HZ.out.size)).trans ((HZ.out.cell (p := ⟨0, i, none⟩) hw).trans (HT.out i hi)))) (Nat.lt_of_lt_of_le hw (Nat.le_trans HZ.out.size (Nat.le_trans HBE.out.size hb.size))))
            have HIF := Lib.hid (show (Tryd.prog.info? 80).map (·.size) = some (vw (fld (pad m) j)).size by rw [vw_size, fld_len]; kernel_rfl)
            have HIG := Lib.hid (show (Tryd.prog.info? 80).map (·.size) = some (vw (fld (pad m) j)).toList.length by rw [Array.length_toList, vw_size, fld_len]; kernel_rfl)
            go_wp2_with fail
            refine wp_region_loudTail 4 wr [] (fun _ _ _ => True) (by kernel_rfl) (by kernel_rfl) (by kernel_rfl) (by kernel_rfl) (fun _ _ _ _ h hb => True.intro) (Below.refl _ _).drew ?_
            simp only [List.take_succ_cons, List.take_zero, List.drop_succ_cons, List.drop_zero]
            repeat (first
              | (refine wpLoud_loadB rfl rfl 80 (.tmp 6) rfl B 0 rfl (vw (fld (pad m) j)) _ (fun z => rangeAt_vw (HBL.out.below z.bel HBL.out.lt)) Tryd.underlying80 rfl HIG.out _ (by simp only [Act.put, List.setIfInBounds_toArray, List.set_cons_succ, List.set_cons_zero]; rfl) ?_)
              | (refine wpLoud_call 41 rfl [] (.agg (vw (fld (pad m) (j + 1)))) 45 (fun g => #[.agg (vw (fld (pad m) j)), .slice (some A) 64 c]) rfl (fun _ _ h => by cases h) rfl (fun g w => by kernel_rfl) (fun g z hg => by
                  refine (HSP.out _ z.bel).mono ?_
                  rintro e w' ⟨rfl, hb⟩
                  exact ⟨_, rfl, hb, rfl⟩) _ (by simp only [Act.put, List.setIfInBounds_toArray, List.set_cons_succ, List.set_cons_zero]; rfl) ?_)
              | (refine wpLoud_plain rfl rfl rfl ?_; intro K hK; go_big_quiet_op; go_big_quiet_on))
            refine wpLoud_end [] (by rfl) ?_
            intro g' z hg'
            have HBL2 := Lib.hid (HBL.out.below z.bel HBL.out.lt)
            have HBY := Lib.hid z.bel
            have HIJ := Lib.hid (show (Tryd.prog.info? 80).map (·.size) = some (vw (fld (pad m) (j + 1))).size by rw [vw_size, fld_len]; kernel_rfl)
            have HIK := Lib.hid (show (vw (fld (pad m) j)).size = (vw (fld (pad m) (j + 1))).size by rw [vw_size, fld_len, vw_size, fld_len])
            generalize z.wd = Y2 at *
            clear hg'
            simp only [fill, Act.put, List.setIfInBounds_toArray, List.set_cons_succ, List.set_cons_zero]
            refine wpList_store_rowTo rfl 80 (.tmp 6) (.tmp 41) rfl rfl B (vw (fld (pad m) (j + 1))) rfl rfl 80 (vw (fld (pad m) j)) HBL2.out HIJ.out HIK.out (vw_one _) ?_
            obtain ⟨Y3, hY3⟩ : ∃ Y3, Y3 = Y2.setRow B (vw (fld (pad m) (j + 1))) := ⟨_, rfl⟩
            have hb3 : Blk Y3 B 80 (vw (fld (pad m) (j + 1))) := by rw [hY3]; exact setRow_heap _ _ _ _ _ (0, 0) HBL2.out
            have hq3 : Below B Y2 Y3 := by rw [hY3]; exact ⟨rfl, rfl, rfl, by simp [World.setRow], fun i hi => setRow_other _ _ i _ (by omega)⟩
            rw [← hY3]
            have HB3' := Lib.hid hb3
            have HQ3 := Lib.hid ((HBY.out.mono (Nat.le_of_lt HBL.out.lt)).trans hq3)
            clear hb3 hq3 hY3 HBL2 HBY HIJ HIK HIF HIG
            rcases Nat.eq_zero_or_pos r with hr0 | hr0
            · subst hr0
              obtain ⟨A2, hA2⟩ : ∃ A2 : Option Addr, (if c = 64 then some A else some { block := A.block, off := A.off + 64 }) = A2 := ⟨_, rfl⟩
              have zf := zero_sum
              have zs1 : zSum.size = 32 := by rfl
              have zs2 : ¬ zSum = #[] := by intro h; have := congrArg Array.size h; rw [zs1] at this; cases this
              have hsh : sha m = (fld (pad m) (j + 1)).flatMap fun w => high w 4 := by
                unfold sha
                rw [HPN.out, show 64 * nb / 64 = j + 1 by omega]
              have HSH := Lib.hid hsh
              have HFL := Lib.hid (fld_len (pad m) (j + 1))
              have HFT := Lib.hid (fld_lt (pad m) (j + 1))
              have hBlt := HB3'.out.lt
              have HBE3 := Lib.hid (show Below Z.heap.size Z Y3 from HBE.out.trans (HQ3.out.mono hzB))
              clear hsh hjr hc hr64 HR HBL HBE HQ3 HSP HPN HPD
              generalize fld (pad m) (j + 1) = H at *
              go_wp2_with fail
              obtain ⟨Y4, hY4⟩ : ∃ Y4, Y4 = Y3.alloc (Obj.cells zSum 28) := ⟨_, rfl⟩
              have HO := Lib.hid (show OutS Z Y4 B Y3.heap.size H (sha m) 0 by
                rw [hY4]
                exact ⟨HBE3.out.alloc HBE3.out.size _, HB3'.out.alloc _, by rw [outZ_zero (by rw [sha_len])]; exact Blk.new _ _ _⟩)
              rw [← hY4]
              clear zf zs1 zs2 hY4 hA2
              obtain ⟨O, hO⟩ : ∃ O, O = Y3.heap.size := ⟨_, rfl⟩
              rw [← hO] at HO hBlt ⊢
              have hzO : Z.heap.size ≤ O := by omega
              have hBO : B ≠ O := by omega
              clear hO hBlt
              go_loopw [47] (fun i wr => ∃ k : Nat, k ≤ 32 ∧ i = .int .i64 k ∧ OutS Z wr B O H (sha m) k) (fun i _ => 32 - (intOf i).toNat)
              case atStart => exact ⟨0, by omega, rfl, HO.out⟩
              case round =>
                rename World => wo
                obtain ⟨k, hk, rfl, hs⟩ := hrel
                have HK := Lib.hid hs
                clear hs HO
                by_cases hlt : k < 32
                · have f1 := u64_and3 (k : Int)
                  have ec := HK.out.hB.cell (k / 4)
                  rw [vw_at _ _ (by rw [HFL.out]; omega)] at ec
                  have hl := HFT.out _ (getD_mem H (k / 4) (by rw [HFL.out]; omega))
                  have eo := HK.out.hO.cell k
                  rw [vb_at _ k (by rw [outZ_len _ _ (by rw [sha_len]; omega), sha_len]; exact hlt)] at eo
                  have ef := HK.out.hO.free k
                  go_wp2_with fail
                  refine ⟨⟨k + 1, by omega, by push_cast; rfl, ?_⟩, ?_⟩
                  · have h1 : Value.int .u8 ((H[k / 4]?.getD 0 : Nat) / 2 ^ (24 - 8 * (k % 4)) % 256 : Int) = .int .u8 (((sha m).getD k 0 : Nat) : Int) := by
                      rw [HSH.out, flat4_at H k (by rw [HFL.out]; omega), List.getD_eq_getElem?_getD]
                      simp
                    rw [h1]
                    refine ⟨HK.out.bel.setCell hzO _, HK.out.hB.far hBO _, ?_⟩
                    rw [← outZ_set _ _ (by rw [sha_len]; exact hlt), ← vb_set]
                    exact HK.out.hO.set_ _ _
                  · show 32 - (intOf (Value.int IntKind.i64 (k + 1))).toNat < 32 - (intOf (Value.int IntKind.i64 k)).toNat
                    simp [intOf]; omega
                · obtain rfl : k = 32 := by omega
                  have h3 := HK.out.hO
                  rw [show (32 : Nat) = (sha m).length from (sha_len m).symm, outZ_end] at h3
                  have HO3 := Lib.hid h3
                  have HZS := Lib.hid (H2.out.below HK.out.bel H2.out.lt)
                  have HIS := Lib.hid (show (Tryd.prog.info? 28).map (·.size) = some (vb (sha m)).size by rw [vb_size, sha_len]; kernel_rfl)
                  clear h3
                  go_wp2_with (first
                    | (refine wpList_load_row rfl 28 (.tmp 7) rfl O rfl 28 (vb (sha m)) (0, 0) _ (by exact HO3.out) Tryd.underlying28 rfl HIS.out ?_)
                    | (refine wpList_store_rowTo rfl 28 (.tmp 2) (.tmp 64) rfl rfl w.heap.size (vb (sha m)) rfl rfl 28 zSum (by exact HZS.out) HIS.out (by rw [vb_size, sha_len]; rfl) (vb_one _) ?_))
                  rw [Exit.noGoto_ret]
                  refine bodyPost_ret (results_cell_row rfl _ _ w.heap.size 28 (vb (sha m)) (0, 0) _ rfl (setRow_heap _ _ zSum _ 28 (0, 0) HZS.out) Tryd.underlying28 rfl HIS.out) rfl ?_
                  exact ⟨rfl, (HZ.out.trans (HK.out.bel.mono HZ.out.size)).trans ⟨rfl, rfl, rfl, by simp [World.setRow], fun i hi => setRow_other _ _ i _ (by omega)⟩⟩
            · have hc' : ¬ c = 64 := by omega
              have e0 : (((64 * (r + 1) - 64 : Nat) : Int) == 0) = false := by simp; omega
              go_wp2_with fail
              refine ⟨⟨j + 1, r - 1, by omega, ⟨⟨A.block, A.off + 64, none⟩, c - 64, by congr 1; omega, by omega, ?_⟩, HB3'.out, HBE.out.trans (HQ3.out.mono hzB)⟩, ?_⟩
              · have h1 := (HR.out.below HQ3.out).drop64
                rw [List.drop_drop] at h1
                exact h1
              · show 64 * (r + 1) - 64 < 64 * (r + 1); omega
end Go.Proofs.YtdbfikcpaionbaaDoor
/- Contracts: the document's turn, cut, number, high. -/
namespace Go.Proofs.YtdbfikcpaionbaaDoor
open Go.RowKit
set_option linter.unusedVariables false
set_option maxRecDepth 100000 in
set_option maxHeartbeats 1000000 in
theorem rturn_c (n k : Nat) (w : World) (hn : n < 4294967296) (hk : k ≤ 32) : Calls Tryd.prog 49 #[.int .u32 n, .int .i64 k] w fun e w' => e = .returned (.int .u32 (rotr n k : Nat)) ∧ w = w' := by
  go_enter Tryd.func49, Tryd.ntmps49
  go_wp2_with fail
  go_loopw [0, 5] (fun v i wr => ∃ j : Nat, j ≤ k ∧ v = .int .u32 (rotr n j : Nat) ∧ i = .int .i64 j ∧ w = wr) (fun _ i _ => k - (intOf i).toNat)
  case atStart => exact ⟨0, by omega, by rw [rotr_zero], rfl, rfl⟩
  case round =>
    obtain ⟨j, hj, rfl, rfl, rfl⟩ := hrel
    by_cases hlt : j < k
    · have hx := rotr_lt (k := j) hn (by omega)
      have HS := Lib.hid (rotr_succ (k := j) hn (by omega))
      generalize rotr n j = X at *
      go_wp2_with fail
      refine ⟨⟨j + 1, by omega, ?_, (by congr 1), True.intro⟩, ?_⟩
      · rw [HS.out]; congr 1
      · simp only [intOf]; omega
    · obtain rfl : j = k := by omega
      go_wp2_with fail
      go_ret
      exact ⟨rfl, rfl⟩
set_option maxRecDepth 100000 in
set_option maxHeartbeats 1000000 in
theorem rcut_c (n k : Nat) (w : World) (hn : n < 4294967296) (hk : k ≤ 32) : Calls Tryd.prog 50 #[.int .u32 n, .int .i64 k] w fun e w' => e = .returned (.int .u32 (n / 2 ^ k : Nat)) ∧ w = w' := by
  go_enter Tryd.func50, Tryd.ntmps50
  go_wp2_with fail
  go_loopw [0, 5] (fun v i wr => ∃ j : Nat, j ≤ k ∧ v = .int .u32 (n / 2 ^ j : Nat) ∧ i = .int .i64 j ∧ w = wr) (fun _ i _ => k - (intOf i).toNat)
  case atStart => exact ⟨0, by omega, by simp, rfl, rfl⟩
  case round =>
    obtain ⟨j, hj, rfl, rfl, rfl⟩ := hrel
    by_cases hlt : j < k
    · have hx : n / 2 ^ j < 4294967296 := Nat.lt_of_le_of_lt (Nat.div_le_self _ _) hn
      have HS := Lib.hid (show n / 2 ^ (j + 1) = n / 2 ^ j / 2 by rw [Nat.pow_succ, Nat.div_div_eq_div_mul])
      generalize n / 2 ^ j = X at *
      go_wp2_with fail
      refine ⟨⟨j + 1, by omega, ?_, (by congr 1), True.intro⟩, ?_⟩
      · rw [HS.out]; congr 1
      · simp only [intOf]; omega
    · obtain rfl : j = k := by omega
      go_wp2_with fail
      go_ret
      exact ⟨rfl, rfl⟩
/-- the number of bytes, the highest first -/
def numB (l : List Nat) : Nat := l.foldl (fun n b => n * 256 + b) 0
theorem numB_take {l : List Nat} {j : Nat} (h : j < l.length) : numB (l.take (j + 1)) = numB (l.take j) * 256 + l.getD j 0 := by
  unfold numB
  rw [List.take_add_one, List.getElem?_eq_getElem h, List.foldl_append, List.getD_eq_getElem?_getD, List.getElem?_eq_getElem h]
  rfl
theorem numB_snoc (l : List Nat) (c : Nat) : numB (l ++ [c]) = numB l * 256 + c := by simp [numB, List.foldl_append]
theorem numB_pow : ∀ (n : Nat) (l : List Nat), l.length = n → (∀ c ∈ l, c < 256) → numB l < 256 ^ n
  | 0, l, h, _ => by rw [List.eq_nil_of_length_eq_zero h]; decide
  | n + 1, l, h, hl => by
    have hne : l ≠ [] := fun h0 => by rw [h0] at h; cases h
    rw [← List.dropLast_concat_getLast hne, numB_snoc, Nat.pow_succ]
    have h1 := numB_pow n l.dropLast (by simp [h]) (fun c hc => hl c (List.dropLast_subset _ hc))
    have h2 := hl _ (List.getLast_mem hne)
    omega
theorem numB_lt (l : List Nat) (hl : ∀ c ∈ l, c < 256) (h : l.length ≤ 7) : numB l < 72057594037927936 := by
  have h1 := numB_pow _ l rfl hl
  have h2 : 256 ^ l.length ≤ 256 ^ 7 := Nat.pow_le_pow_right (by decide) h
  omega
set_option maxRecDepth 100000 in
set_option maxHeartbeats 1000000 in
theorem hnumber_c (B : Nat) (ad : Addr) (ca : Nat) (l : List Nat) (w : World) (hr : Rd w B (some ad) (byt l)) (hl : ∀ c ∈ l, c < 256) (hlen : l.length ≤ 8) :
    Calls Tryd.prog 48 #[.slice (some ad) l.length ca] w fun e w' => e = .returned (.int .u64 (numB l : Nat)) ∧ w = w' := by
  have HR := Lib.hid hr
  have HL := Lib.hid hl
  clear hr hl
  go_enter Tryd.func48, Tryd.ntmps48
  go_wp2_with fail
  go_loopw [3, 4] (fun v i wr => ∃ j : Nat, j ≤ l.length ∧ v = .int .u64 (numB (l.take j) : Nat) ∧ i = .int .i64 j ∧ w = wr) (fun _ i _ => l.length - (intOf i).toNat)
  case atStart => exact ⟨0, by omega, rfl, rfl, rfl⟩
  case round =>
    obtain ⟨j, hj, rfl, rfl, rfl⟩ := hrel
    by_cases hlt : j < l.length
    · have HS := Lib.hid (numB_take hlt)
      have hx := numB_lt (l.take j) (fun c hc => HL.out c (List.mem_of_mem_take hc)) (by rw [List.length_take]; omega)
      have hc := HL.out _ (getD_mem l j hlt)
      obtain ⟨_, e0, _, eb⟩ := HR.out.byte hlt
      injection e0 with e0
      subst e0
      generalize numB (l.take j) = X at *
      generalize l.getD j 0 = y at *
      go_wp2_with fail
      refine ⟨⟨j + 1, by omega, ?_, (by congr 1), True.intro⟩, ?_⟩
      · rw [HS.out]; congr 1
      · simp only [intOf]; omega
    · obtain rfl : j = l.length := by omega
      rw [List.take_length]
      go_wp2_with fail
      go_ret
      exact ⟨rfl, rfl⟩
theorem OwnB.ofBlk {w : World} {base g : Nat} {l : List Nat} (hb : base ≤ g) (h : Blk w g 5 (vb l)) (hm : l.length ≤ maxLen) : OwnB w base (.slice (some ⟨g, 0, none⟩) l.length l.length) l :=
  ⟨by simp [byt_len], .inr ⟨g, l.length, _, rfl, hb, h, Nat.le_refl _, hm, by simp [vb, byt_len], List.take_of_length_le (by simp [vb, byt_len])⟩⟩
theorem high_top (j : Nat) : ∀ n, high n (j + 1) = (n / 256 ^ j % 256) :: high n j := by
  induction j with
  | zero => intro n; simp [high]
  | succ j ih =>
    intro n
    show high (n / 256) (j + 1) ++ [n % 256] = _
    rw [ih, Nat.div_div_eq_div_mul, Nat.pow_succ, Nat.mul_comm 256]
    rfl
/-- what is laid from the end -/
def hiZ (n k j : Nat) : List Nat := List.replicate (k - j) 0 ++ high n j
theorem hiZ_len (n k j : Nat) (h : j ≤ k) : (hiZ n k j).length = k := by simp [hiZ, high_len]; omega
theorem hiZ_zero (n k : Nat) : hiZ n k 0 = List.replicate k 0 := by simp [hiZ, high]
theorem hiZ_end (n k : Nat) : hiZ n k k = high n k := by simp [hiZ]
theorem hiZ_set (n k j : Nat) (h : j < k) : (hiZ n k j).set (k - 1 - j) (n / 256 ^ j % 256) = hiZ n k (j + 1) := by
  unfold hiZ
  rw [high_top, show k - j = (k - (j + 1)) + 1 by omega, List.replicate_succ', List.append_assoc, List.set_append_right _ _ (by simp; omega), List.length_replicate, show k - 1 - j - (k - (j + 1)) = 0 by omega]
  rfl
theorem make_by (k : Nat) (hk : k = 4 ∨ k = 8) (w : World) : (Instr.makeSlice 24 (.int .i64 (k : Int)) (.int .i64 (k : Int))).run Tryd.prog w = .ok (.slice (some ⟨w.heap.size, 0, none⟩) k k) (w.alloc (.cells (vb (List.replicate k 0)) 5)) := by
  rcases hk with rfl | rfl <;> kernel_rfl
set_option maxRecDepth 100000 in
set_option maxHeartbeats 1000000 in
theorem rhigh_c (n k : Nat) (w : World) (hn : n < 18446744073709551616) (hk : k = 4 ∨ k = 8) : Calls Tryd.prog 46 #[.int .u64 n, .int .i64 k] w (Gives (high n k) w) := by
  have hmk := make_by k hk
  have hk8 : 0 < k ∧ k ≤ 8 := by omega
  clear hk
  go_enter Tryd.func46, Tryd.ntmps46
  go_wp2_with fail
  obtain ⟨Z, hZ⟩ : ∃ Z, Z = w.alloc (Obj.cells (vb (List.replicate k 0)) 5) := ⟨_, rfl⟩
  have H0 := Lib.hid (show Below w.heap.size w Z ∧ Blk Z w.heap.size 5 (vb (hiZ n k 0)) by
    rw [hZ, hiZ_zero]
    exact ⟨(Below.refl _ _).alloc (Nat.le_refl _) _, Blk.new _ _ _⟩)
  rw [← hZ]
  clear hZ hmk
  go_loopw [0, 6] (fun v i wr => ∃ j : Nat, j ≤ k ∧ v = .int .u64 (n / 256 ^ j : Nat) ∧ i = .int .i64 ((k : Int) - 1 - j) ∧ Below w.heap.size w wr ∧ Blk wr w.heap.size 5 (vb (hiZ n k j))) (fun _ i _ => match i with | .int _ n => (n + 1).toNat | _ => 0)
  case atStart => exact ⟨0, by omega, by simp, by simp, H0.out.1, H0.out.2⟩
  case round =>
    rename World => wr
    obtain ⟨j, hj, rfl, rfl, hb, hk⟩ := hrel
    have HB := Lib.hid hb
    have HK := Lib.hid hk
    clear hb hk H0
    by_cases hlt : j < k
    · have hx : n / 256 ^ j < 18446744073709551616 := Nat.lt_of_le_of_lt (Nat.div_le_self _ _) hn
      have HS := Lib.hid (show n / 256 ^ (j + 1) = n / 256 ^ j / 256 by rw [Nat.pow_succ, Nat.div_div_eq_div_mul])
      have HZS := Lib.hid (hiZ_set n k j hlt)
      have eo := HK.out.cell (k - 1 - j)
      rw [vb_at _ _ (by rw [hiZ_len _ _ _ hj]; omega)] at eo
      have ef := HK.out.free (k - 1 - j)
      have et : ((k : Int) - 1 - j).toNat = k - 1 - j := by omega
      generalize n / 256 ^ j = X at *
      go_wp2_with fail
      refine ⟨⟨j + 1, by omega, ?_, ?_, HB.out.setCell (Nat.le_refl _) _, ?_⟩, ?_⟩
      · rw [HS.out]; congr 1
      · congr 1; omega
      · rw [← HZS.out, ← vb_set]
        exact HK.out.set_ _ _
      · show ((k : Int) - 1 - j - 1 + 1).toNat < ((k : Int) - 1 - j + 1).toNat
        omega
    · obtain rfl : j = k := by omega
      rw [hiZ_end] at HK
      go_wp2_with fail
      go_ret
      have ho := OwnB.ofBlk (base := w.heap.size) (Nat.le_refl _) HK.out (by rw [high_len]; simp [maxLen]; omega)
      rw [high_len] at ho
      exact ⟨_, rfl, ho, HB.out⟩
end Go.Proofs.YtdbfikcpaionbaaDoor
/- Contract: the document's fingerprint: lemmas. -/
namespace Go.Proofs.YtdbfikcpaionbaaDoor
open Go.RowKit
set_option linter.unusedVariables false
set_option linter.unusedSimpArgs false
theorem wordInfo : (Tryd.prog.info? 78).map (fun i => (i.zero, i.size, i.bytes)) = some (some (.int .u32 0), 1, 4) := by kernel_rfl
theorem OwnB.open_ {w : World} {base : Nat} {v : Value} {l : List Nat} (h : OwnB w base v l) (hne : l ≠ []) : ∃ g cap rest, v = .slice (some ⟨g, 0, none⟩) l.length cap ∧ base ≤ g ∧ Blk w g 5 (byt l ++ rest).toArray ∧ l.length ≤ cap ∧ cap ≤ maxLen ∧ rest.length + l.length = cap := by
  rcases h.2 with ⟨_, h0⟩ | ⟨g, cap, cur, rfl, hb, hh, hn, hm, hc, ht⟩
  · exact absurd (List.eq_nil_of_length_eq_zero h0) hne
  · refine ⟨g, cap, cur.toList.drop l.length, rfl, hb, ?_, hn, hm, ?_⟩
    · rw [Nat.mul_one] at ht
      unfold Blk
      rw [hh, ← ht, List.take_append_drop]
    · rw [List.length_drop, Array.length_toList, hc]; omega
theorem OwnB.next {w w' : World} {base : Nat} {v : Value} {l : List Nat} (h : OwnB w base v l) (hb : Below w.heap.size w w') : OwnB w' base v l := own_keep (S := fun _ => False) h (Only.of_below hb) (fun _ _ h => h)
def OwnW (w : World) (base : Nat) (v : Value) (l : List Nat) : Prop := w.ownsRow base 78 1 v l.length (w32 l)
theorem OwnW.nil_ (w : World) (base : Nat) : OwnW w base (.slice none 0 0) [] := ⟨rfl, .inl ⟨rfl, rfl⟩⟩
theorem OwnW.rd {w : World} {base : Nat} {v : Value} {l : List Nat} (h : OwnW w base v l) : ∃ A cap, v = .slice A l.length cap ∧ l.length ≤ cap ∧ cap ≤ maxLen ∧ Rd w w.heap.size A (w32 l) := own_rd h
theorem OwnW.alloc {w : World} {base : Nat} {v : Value} {l : List Nat} (h : OwnW w base v l) (o : Obj) : OwnW (w.alloc o) base v l := World.ownsRow.alloc h o
theorem OwnW.drewN {w : World} {base : Nat} {v : Value} {l : List Nat} (h : OwnW w base v l) (n : Nat) : OwnW (w.drewN n) base v l := h
theorem OwnW.snoc {w w' : World} {base : Nat} {v v' : Value} {l : List Nat} {c : Nat} (h : Apped w base 78 1 v w' v' (l.length + 1) (w32 l ++ [.int .u32 (c : Int)])) : OwnW w' base v' (l ++ [c]) := by
  have := h.own
  simpa [OwnW, w32] using this
theorem w32_one (l : List Nat) : ∀ u ∈ w32 l, u.oneCell' = true := by
  intro u hu
  obtain ⟨n, _, rfl⟩ := List.mem_map.1 hu
  rfl
theorem w32_at {l : List Nat} {i : Nat} (h : i < l.length) : (w32 l)[i]? = some (.int .u32 (l.getD i 0 : Nat)) := by
  simp [w32, List.getD_eq_getElem?_getD, h]
theorem Rd.wordAt {w : World} {B : Nat} {A : Option Addr} {l : List Nat} (h : Rd w B A (w32 l)) (hn : 0 < l.length) :
    ∃ ad, A = some ad ∧ ad.block < B ∧ ∀ k, k < l.length → w.cell? (ad.add k) = some (.int .u32 (l.getD k 0 : Nat)) := by
  obtain ⟨ad, e, hb, hc⟩ := h (fun h0 => by have := w32_len l; rw [h0] at this; simp at this; omega)
  exact ⟨ad, e, hb, fun k hk => hc k _ (w32_at hk)⟩
theorem rd_oneW (w : World) (v : Value) : Rd (w.alloc (.cells #[v] 78)) (w.heap.size + 1) (some ⟨w.heap.size, 0, none⟩) [v] := rd_new w [v] _ (0, 0)
set_option maxRecDepth 100000 in
set_option maxHeartbeats 1000000 in
theorem rconst_c (w : World) : Calls Tryd.prog 47 #[] w fun e w' => e = .returned (.slice (some ⟨w.heap.size, 0, none⟩) 64 64) ∧ w' = w.alloc (.cells (vw kc) 78) := by
  go_enter Tryd.func47, Tryd.ntmps47
  go_wp2_with fail
  go_ret
  exact ⟨rfl, rfl⟩
theorem cells_of_blk {w : World} {g : Nat} {t : TypeId} {l : List Nat} {rest : List Value} (h : Blk w g t (byt l ++ rest).toArray) (i : Nat) (hi : i < l.length) : w.cell? ⟨g, i, none⟩ = some (.int .u8 (l.getD i 0 : Nat)) := by
  rw [h.cell, List.getElem?_toArray, List.getElem?_append_left (by rw [byt_len]; exact hi), byt_at hi]
theorem getD_four {L : List Nat} (h : L.length = 4) : L = [L.getD 0 0, L.getD 1 0, L.getD 2 0, L.getD 3 0] := by
  match L, h with
  | [a, b, c, d], _ => rfl
theorem num4_c (gp at0 i ca : Nat) (P CH : List Nat) (rest : List Value) (hi : i < 16) (hl : CH.length = 64) (hlt : ∀ c ∈ CH, c < 256) (hc : ∀ i, i < 64 → P.getD (at0 + i) 0 = CH.getD i 0) (hP : at0 + 64 ≤ P.length) (W : World) (hb : Blk W gp 5 (byt P ++ rest).toArray) :
    Calls Tryd.prog 48 #[.slice (some ⟨gp, at0 + 4 * i, none⟩) 4 ca] W fun e w' => e = .returned (.int .u64 (be4 CH i : Nat)) ∧ W = w' := by
  have h := hnumber_c (gp + 1) ⟨gp, at0 + 4 * i, none⟩ ca [CH.getD (4 * i) 0, CH.getD (4 * i + 1) 0, CH.getD (4 * i + 2) 0, CH.getD (4 * i + 3) 0] W (fun _ => ⟨_, rfl, Nat.lt_succ_self _, fun j u hu => by
    have hj : j < 4 := by
      rcases Nat.lt_or_ge j 4 with h1 | h1
      · exact h1
      · rw [List.getElem?_eq_none (by rw [byt_len]; exact h1)] at hu; cases hu
    rw [Addr.add_mid]
    rw [cells_of_blk hb (at0 + 4 * i + j) (by omega), show at0 + 4 * i + j = at0 + (4 * i + j) by omega, hc _ (by omega), ← hu]
    have hj3 : j = 0 ∨ j = 1 ∨ j = 2 ∨ j = 3 := by omega
    rcases hj3 with rfl | rfl | rfl | rfl <;> rfl⟩) (fun c hc => by
    simp only [List.mem_cons, List.not_mem_nil, or_false] at hc
    rcases hc with rfl | rfl | rfl | rfl <;> exact getD_lt hlt _) (by simp)
  have e : numB [CH.getD (4 * i) 0, CH.getD (4 * i + 1) 0, CH.getD (4 * i + 2) 0, CH.getD (4 * i + 3) 0] = be4 CH i := by
    show (((0 * 256 + CH.getD (4 * i) 0) * 256 + CH.getD (4 * i + 1) 0) * 256 + CH.getD (4 * i + 2) 0) * 256 + CH.getD (4 * i + 3) 0 = _
    rw [Nat.zero_mul, Nat.zero_add]
    rfl
  rw [e] at h
  exact h
def findL (n : Nat) : Code → Option Code
  | .seq a b => match findL n a with
    | some c => some c
    | none => findL n b
  | .loop a => findL n a
  | .block i a => if i == n then some a else findL n a
  | .scope a => findL n a
  | .cond _ a b => match findL n a with
    | some c => some c
    | none => findL n b
  | _ => none
noncomputable def lp (n : Nat) : Code := ((Tryd.f37.body.bind (findL n)).getD .skip)
theorem OwnW.next {w w' : World} {base : Nat} {v : Value} {l : List Nat} (h : OwnW w base v l) (hb : Below w.heap.size w w') : OwnW w' base v l := own_keep (S := fun _ => False) h (Only.of_below hb) (fun _ _ h => h)
theorem OwnW.new (w : World) (base : Nat) (l : List Nat) (hb : base ≤ w.heap.size) (hm : l.length ≤ maxLen) : OwnW (w.alloc (.cells (w32 l).toArray 78)) base (.slice (some ⟨w.heap.size, 0, none⟩) l.length l.length) l :=
  ⟨by simp [w32_len], .inr ⟨w.heap.size, l.length, _, rfl, hb, heapNew _ _, Nat.le_refl _, hm, by simp [w32_len], List.take_of_length_le (by simp [w32_len])⟩⟩
theorem run_oneW (w : World) (c : Nat) {o : Oper} {a : Act} (x : Operand) (ho : o.op = .buildSlice 84 1 #[(0, x)]) (hx : a.eval x = .int .u32 (c : Nat)) :
    (execOp a.eval o).run Tryd.prog w = .ok (.value (.slice (some ⟨w.heap.size, 0, none⟩) 1 1)) (w.alloc (.cells (w32 [c]).toArray 78)) := by
  obtain ⟨i0, hi, hz0, hz1, hz2⟩ := info_parts wordInfo
  have e1 : (#[(0, x)].map fun (p : Nat × Operand) => (p.1, a.eval p.2)).toList = (([Value.int .u32 (c : Nat)].zipIdx 0).map fun x => (x.2, x.1)) := by
    simp [hx]
  have h1 := run_buildSlice (P := Tryd.prog) w 84 78 1 (#[(0, x)].map fun (p : Nat × Operand) => (p.1, a.eval p.2)) (w32 [c]).toArray i0 _ Tryd.underlying84 hi hz0 (by rw [hz1]; decide) (by rw [hz1]; decide) (by
    rw [hz1]
    refine (congrArg _ e1).trans ?_
    exact (Great.fill_flat [Value.int .u32 (c : Nat)] _ (fun v hv => by rw [List.mem_singleton.1 hv]; rfl) (by simp)))
  unfold execOp
  simp only [ho, Sem.run_bind, h1, Result.andThen_ok]
  rfl
theorem cell_ext {Z : World} {a : Addr} {v : Value} (h : Z.cell? a = some v) : ∀ x : Ext Z, x.wd.cell? a = some v := fun x => x.cell h
theorem info_word : ∃ i4, Tryd.prog.info? 78 = some i4 ∧ i4.zero = some (.int .u32 0) ∧ i4.size = 1 ∧ i4.bytes = 4 := info_parts wordInfo
end Go.Proofs.YtdbfikcpaionbaaDoor
/- Digits of bytes: plain; a digit's value. -/
namespace Go.Proofs.YtdbfikcpaionbaaDoor
open Go.RowKit
set_option linter.unusedVariables false
set_option linter.unusedSimpArgs false
def bstr (l : List Nat) : ByteArray := ⟨(l.map UInt8.ofNat).toArray⟩
theorem bstr_app (a b : List Nat) : bstr a ++ bstr b = bstr (a ++ b) := by
  unfold bstr
  rw [List.map_append]
  exact ByteArray.mk_append_mk _ _
theorem bstr_size (a : List Nat) : (bstr a).size = a.length := by simp [bstr, ByteArray.size]
/-- a string's bytes -/
def sbytes (s : ByteArray) : List Nat := s.data.toList.map (·.toNat)
theorem sbytes_lt (s : ByteArray) : ∀ c ∈ sbytes s, c < 256 := by
  intro c hc
  obtain ⟨u, _, rfl⟩ := List.mem_map.1 hc
  exact u.toNat_lt
theorem bstr_sbytes (s : ByteArray) : bstr (sbytes s) = s := by
  unfold bstr sbytes
  rw [List.map_map]
  have : (UInt8.ofNat ∘ fun u : UInt8 => u.toNat) = id := by funext u; simp
  rw [this, List.map_id]
theorem bstr_get {l : List Nat} (hl : ∀ c ∈ l, c < 256) {i : Nat} (h : i < l.length) (h' : i < (bstr l).size) : ((bstr l)[i]'h').toNat = l.getD i 0 := by
  have h1 := hl _ (List.getElem_mem h)
  have e : (bstr l)[i]'h' = UInt8.ofNat l[i] := by simp [bstr, ByteArray.getElem_eq_getElem_data]
  rw [e, List.getD_eq_getElem?_getD, List.getElem?_eq_getElem h, UInt8.toNat_ofNat']
  simp only [Option.getD_some]
  omega
theorem bstr_inj {a b : List Nat} (ha : ∀ c ∈ a, c < 256) (hb : ∀ c ∈ b, c < 256) (h : bstr a = bstr b) : a = b := by
  have hn : a.length = b.length := by rw [← bstr_size, ← bstr_size, h]
  refine List.ext_getElem hn fun i h1 h2 => ?_
  have e1 := bstr_get ha h1 (by rw [bstr_size]; exact h1)
  have e2 := bstr_get hb h2 (by rw [bstr_size]; exact h2)
  rw [List.getD_eq_getElem?_getD, List.getElem?_eq_getElem h1] at e1
  rw [List.getD_eq_getElem?_getD, List.getElem?_eq_getElem h2] at e2
  have e3 : ((bstr a)[i]'(by rw [bstr_size]; exact h1)).toNat = ((bstr b)[i]'(by rw [bstr_size]; exact h2)).toNat := by
    congr 1
    simp only [h]
  rw [e1, e2] at e3
  exact e3
theorem run_index_str (l : List Nat) (k : IntKind) (i : Nat) (w : World) (hl : ∀ c ∈ l, c < 256) (h : i < l.length) :
    (Instr.index 9 (.string (bstr l)) (.int k (i : Int))).run Tryd.prog w = .ok (.int .u8 (l.getD i 0 : Nat)) w := by
  have h1 := run_index_string (P := Tryd.prog) w 9 (bstr l) k (i : Int) Tryd.underlying9
  have h2 : 0 ≤ (i : Int) ∧ (i : Int) < ((bstr l).size : Int) := by rw [bstr_size]; omega
  rw [dif_pos h2] at h1
  rw [h1]
  have e : ((bstr l)[(i : Int).toNat]'(by omega)).toNat = l.getD i 0 := bstr_get hl h (by rw [bstr_size]; exact h)
  rw [e]
/-! digits -/
def hd (n : Nat) : Nat := if n < 10 then n + 48 else n + 87
theorem hd_lt {n : Nat} (h : n < 16) : hd n < 256 := by unfold hd; split <;> omega
def hexs (l : List Nat) : List Nat := l.flatMap fun c => [hd (c / 16), hd (c % 16)]
theorem hexs_len (l : List Nat) : (hexs l).length = 2 * l.length := by
  induction l with
  | nil => rfl
  | cons a l ih => simp only [hexs, List.flatMap_cons, List.length_append, List.length_cons, List.length_nil] at *; omega
theorem hexs_snoc (l : List Nat) (c : Nat) : hexs (l ++ [c]) = hexs l ++ [hd (c / 16), hd (c % 16)] := by simp [hexs]
theorem hexs_lt {l : List Nat} (h : ∀ c ∈ l, c < 256) : ∀ c ∈ hexs l, c < 256 := by
  intro c hc
  obtain ⟨x, hx, hc⟩ := List.mem_flatMap.1 hc
  have := h x hx
  simp only [List.mem_cons, List.not_mem_nil, or_false] at hc
  rcases hc with rfl | rfl
  · exact hd_lt (by omega)
  · exact hd_lt (by omega)
/-- a digit's value -/
def dv (c : Nat) : Option Nat := if 48 ≤ c ∧ c ≤ 57 then some (c - 48) else if 97 ≤ c ∧ c ≤ 102 then some (c - 87) else none
theorem dv_lt {c x : Nat} (h : dv c = some x) : x < 16 := by
  unfold dv at h
  split at h
  · injection h; omega
  · split at h
    · injection h; omega
    · cases h
theorem dv_hd {n : Nat} (h : n < 16) : dv (hd n) = some n := by
  have : ∀ n, n < 16 → dv (hd n) = some n := by decide
  exact this n h
def unh : List Nat → Option (List Nat)
  | [] => some []
  | [_] => none
  | a :: b :: r => match dv a, dv b, unh r with
    | some x, some y, some z => some ((x * 16 + y) :: z)
    | _, _, _ => none
theorem unh_hexs {l : List Nat} (h : ∀ c ∈ l, c < 256) : unh (hexs l) = some l := by
  induction l with
  | nil => rfl
  | cons a l ih =>
    have ha := h a (List.mem_cons_self ..)
    have e : hexs (a :: l) = hd (a / 16) :: hd (a % 16) :: hexs l := rfl
    rw [e, unh, dv_hd (by omega), dv_hd (by omega), ih (fun c hc => h c (List.mem_cons_of_mem _ hc))]
    show some ((a / 16 * 16 + a % 16) :: l) = _
    congr 2
    omega
theorem unh_odd : ∀ (l : List Nat), l.length % 2 = 1 → unh l = none
  | [], h => by cases h
  | [_], _ => rfl
  | a :: b :: r, h => by
    rw [unh, unh_odd r (by simp only [List.length_cons] at h; omega)]
    cases dv a <;> cases dv b <;> rfl
theorem unh_lt {l u : List Nat} (h : unh l = some u) : ∀ c ∈ u, c < 256 := by
  match l, h with
  | [], h => injection h with h; subst h; intro c hc; cases hc
  | [_], h => cases h
  | a :: b :: r, h =>
    rw [unh] at h
    cases ea : dv a with
    | none => rw [ea] at h; cases h
    | some x =>
      cases eb : dv b with
      | none => rw [ea, eb] at h; cases h
      | some y =>
        cases er : unh r with
        | none => rw [ea, eb, er] at h; cases h
        | some z =>
          rw [ea, eb, er] at h
          injection h with h
          subst h
          intro c hc
          rcases List.mem_cons.1 hc with rfl | hc
          · have := dv_lt ea; have := dv_lt eb; omega
          · exact unh_lt er c hc
theorem unh_len {l u : List Nat} (h : unh l = some u) : 2 * u.length = l.length := by
  match l, h with
  | [], h => injection h with h; subst h; rfl
  | [_], h => cases h
  | a :: b :: r, h =>
    rw [unh] at h
    cases ea : dv a with
    | none => rw [ea] at h; cases h
    | some x =>
      cases eb : dv b with
      | none => rw [ea, eb] at h; cases h
      | some y =>
        cases er : unh r with
        | none => rw [ea, eb, er] at h; cases h
        | some z =>
          rw [ea, eb, er] at h
          injection h with h
          subst h
          have := unh_len er
          simp only [List.length_cons]; omega
/-- one pair more, behind pairs that are read -/
theorem unh_app (p : List Nat) {u : List Nat} (hp : unh p = some u) (q : List Nat) : unh (p ++ q) = match unh q with | some z => some (u ++ z) | none => none := by
  match p, hp with
  | [], hp => injection hp with hp; subst hp; rw [List.nil_append]; cases unh q <;> rfl
  | [_], hp => cases hp
  | a :: b :: r, hp =>
    rw [unh] at hp
    cases ea : dv a with
    | none => rw [ea] at hp; cases hp
    | some x =>
      cases eb : dv b with
      | none => rw [ea, eb] at hp; cases hp
      | some y =>
        cases er : unh r with
        | none => rw [ea, eb, er] at hp; cases hp
        | some z =>
          rw [ea, eb, er] at hp
          injection hp with hp
          subst hp
          rw [List.cons_append, List.cons_append, unh, ea, eb, unh_app r er q]
          cases unh q <;> rfl
/-- at a pair in the middle -/
theorem unh_at (s : List Nat) (j : Nat) {u : List Nat} (hp : unh (s.take (2 * j)) = some u) (h : 2 * j + 1 < s.length) :
    (∀ x y, dv (s.getD (2 * j) 0) = some x → dv (s.getD (2 * j + 1) 0) = some y → unh (s.take (2 * (j + 1))) = some (u ++ [x * 16 + y])) ∧
    (dv (s.getD (2 * j) 0) = none ∨ dv (s.getD (2 * j + 1) 0) = none → unh s = none) := by
  have e0 : s.getD (2 * j) 0 = s[2 * j] := by rw [List.getD_eq_getElem?_getD, List.getElem?_eq_getElem (by omega)]; rfl
  have e1 : s.getD (2 * j + 1) 0 = s[2 * j + 1] := by rw [List.getD_eq_getElem?_getD, List.getElem?_eq_getElem h]; rfl
  have ed : s.drop (2 * j) = s[2 * j] :: s[2 * j + 1] :: s.drop (2 * j + 2) := by
    rw [List.drop_eq_getElem_cons (by omega), List.drop_eq_getElem_cons h]
  rw [e0, e1]
  constructor
  · intro x y hx hy
    have et : s.take (2 * (j + 1)) = s.take (2 * j) ++ [s[2 * j], s[2 * j + 1]] := by
      rw [show 2 * (j + 1) = 2 * j + 1 + 1 by omega, List.take_add_one, List.take_add_one, List.getElem?_eq_getElem h, List.getElem?_eq_getElem (by omega), List.append_assoc]
      rfl
    rw [et, unh_app _ hp, unh, hx, hy]
    rfl
  · intro hn
    rw [← List.take_append_drop (2 * j) s, unh_app _ hp, ed, unh]
    rcases hn with hn | hn
    · rw [hn]
    · rw [hn]; cases dv s[2 * j] <;> rfl
theorem digits_at (n : Nat) (h : n < 16) : [48, 49, 50, 51, 52, 53, 54, 55, 56, 57, 97, 98, 99, 100, 101, 102].getD n 0 = hd n := by
  have : ∀ n, n < 16 → [48, 49, 50, 51, 52, 53, 54, 55, 56, 57, 97, 98, 99, 100, 101, 102].getD n 0 = hd n := by decide
  exact this n h
theorem digit_cut (n : Nat) (h : n < 16) : (ByteArray.mk #[48, 49, 50, 51, 52, 53, 54, 55, 56, 57, 97, 98, 99, 100, 101, 102]).extract n (n + 1) = bstr [hd n] := by
  have : ∀ n, n < 16 → (ByteArray.mk #[48, 49, 50, 51, 52, 53, 54, 55, 56, 57, 97, 98, 99, 100, 101, 102]).extract n (n + 1) = bstr [hd n] := by decide
  exact this n h
theorem run_digit (n : Nat) (k : IntKind) (w : World) (h : n < 16) : (Instr.index 9 (.string (ByteArray.mk #[48, 49, 50, 51, 52, 53, 54, 55, 56, 57, 97, 98, 99, 100, 101, 102])) (.int k (n : Int))).run Tryd.prog w = .ok (.int .u8 (hd n : Nat)) w := by
  have h1 := run_index_str [48, 49, 50, 51, 52, 53, 54, 55, 56, 57, 97, 98, 99, 100, 101, 102] k n w (by decide) h
  rw [digits_at n h] at h1
  exact h1
/-! the contracts of a digit -/
def dvV (c : Nat) : Value := match dv c with
  | some x => .tuple #[.int .u8 (x : Nat), .bool true]
  | none => .tuple #[.int .u8 0, .bool false]
end Go.Proofs.YtdbfikcpaionbaaDoor
/- Contract: the digits of bytes. -/
namespace Go.Proofs.YtdbfikcpaionbaaDoor
open Go.RowKit
set_option linter.unusedVariables false
set_option linter.unusedSimpArgs false
theorem u8_and15 (c : Nat) (h : c < 256) : bits BinOp.and .u8 (c : Int) 15 = ((c % 16 : Nat) : Int) := by
  have h63 : (BitVec.ofInt 8 15).toNat = 2 ^ 4 - 1 := by decide
  have key : (BitVec.ofInt 8 c &&& BitVec.ofInt 8 15).toNat = ((c : Int) % ((2 ^ 8 : Nat) : Int)).toNat % 2 ^ 4 := by
    rw [BitVec.toNat_and, BitVec.toNat_ofInt, h63, Nat.and_two_pow_sub_one_eq_mod]
  show IntKind.u8.wrap ((BitVec.ofInt 8 c &&& BitVec.ofInt 8 15).toNat : Nat) = ((c % 16 : Nat) : Int)
  rw [key]
  simp [IntKind.wrap, IntKind.signed, IntKind.bits]
  omega
theorem convZ (w : World) (A : Option Addr) (c : Nat) : (convert 24 9 (.slice A 0 c)).run Tryd.prog w = .ok (.string (bstr [])) w := by
  rw [run_convert_bytes_string w 24 9 5 A 0 c Tryd.underlying24 Tryd.underlying5 Tryd.underlying9]
  cases A <;> simp [Conv.bytesToString, loadCells]
  all_goals rfl
theorem run_two (w : World) (a b : Nat) {o : Oper} {f : Act} (x y : Operand) (ho : o.op = .buildSlice 24 2 #[(0, x), (1, y)]) (hx : f.eval x = .int .u8 (a : Nat)) (hy : f.eval y = .int .u8 (b : Nat)) :
    (execOp f.eval o).run Tryd.prog w = .ok (.value (.slice (some ⟨w.heap.size, 0, none⟩) 2 2)) (w.alloc (.cells (byt [a, b]).toArray 5)) := by
  obtain ⟨i0, hi, hz0, hz1, hz2⟩ := info_parts byteInfo
  have e1 : (#[(0, x), (1, y)].map fun (p : Nat × Operand) => (p.1, f.eval p.2)).toList = (([Value.int .u8 (a : Nat), Value.int .u8 (b : Nat)].zipIdx 0).map fun x => (x.2, x.1)) := by
    simp [hx, hy]
  have h1 := run_buildSlice (P := Tryd.prog) w 24 5 2 (#[(0, x), (1, y)].map fun (p : Nat × Operand) => (p.1, f.eval p.2)) (byt [a, b]).toArray i0 _ Tryd.underlying24 hi hz0 (by rw [hz1]; decide) (by rw [hz1]; decide) (by
    rw [hz1]
    refine (congrArg _ e1).trans ?_
    exact (Great.fill_flat [Value.int .u8 (a : Nat), Value.int .u8 (b : Nat)] _ (fun v hv => by
      simp only [List.mem_cons, List.not_mem_nil, or_false] at hv
      rcases hv with rfl | rfl <;> rfl) (by simp)))
  unfold execOp
  simp only [ho, Sem.run_bind, h1, Result.andThen_ok]
  rfl
theorem conv_c (w : World) (g cap : Nat) (l : List Nat) (rest : List Value) (hb : Blk w g 5 (byt l ++ rest).toArray) (hl : ∀ c ∈ l, c < 256) :
    (convert 24 9 (.slice (some ⟨g, 0, none⟩) l.length cap)).run Tryd.prog w = .ok (.string (bstr l)) w := by
  have h := run_convert_bytes_back (P := Tryd.prog) w 24 9 5 ⟨g, 0, none⟩ cap (l.map UInt8.ofNat) Tryd.underlying24 Tryd.underlying5 Tryd.underlying9 (fun j hj => by
    have hj' : j < l.length := by simpa using hj
    have e1 : (Addr.add ⟨g, 0, none⟩ j) = ⟨g, j, none⟩ := by
      cases j <;> simp [Addr.add]
    rw [e1, cells_of_blk hb j hj']
    have hlt := hl _ (List.getElem_mem hj')
    simp [List.getD_eq_getElem?_getD, hj']
    omega)
  rw [List.length_map] at h
  exact h
theorem convB {w : World} {base : Nat} {v : Value} {l : List Nat} (h : OwnB w base v l) (hl : ∀ c ∈ l, c < 256) (hne : l ≠ []) : (convert 24 9 v).run Tryd.prog w = .ok (.string (bstr l)) w := by
  obtain ⟨g, cap, rest, rfl, _, hb, _⟩ := h.open_ hne
  exact conv_c w g cap l rest hb hl
theorem run_cut_digit (n : Nat) (w : World) (h : n < 16) : (Instr.slice 9 (.string (ByteArray.mk #[48, 49, 50, 51, 52, 53, 54, 55, 56, 57, 97, 98, 99, 100, 101, 102])) (some (.int .u8 (n : Int))) (some (.int .u8 ((n : Int) + 1))) none).run Tryd.prog w = .ok (.string (bstr [hd n])) w := by
  have h1 := run_slice_string (P := Tryd.prog) w 9 (ByteArray.mk #[48, 49, 50, 51, 52, 53, 54, 55, 56, 57, 97, 98, 99, 100, 101, 102]) .u8 .u8 (n : Int) ((n : Int) + 1) Tryd.underlying9 (by omega) (by omega) (by show ((n : Int) + 1) ≤ ((16 : Nat) : Int); omega)
  rw [h1, show ((n : Int) + 1).toNat = n + 1 by omega, Int.toNat_natCast, digit_cut n h]
end Go.Proofs.YtdbfikcpaionbaaDoor
/- Contract: the bytes of digits. -/
namespace Go.Proofs.YtdbfikcpaionbaaDoor
open Go.RowKit
set_option linter.unusedVariables false
set_option linter.unusedSimpArgs false
def errU (s : List Nat) : Nat := if (unh s).isSome then 0 else 4
def resU (s : List Nat) : List Nat := (unh s).getD []
theorem i64_and1 (n : Int) : bits .and .i64 n 1 = n % 2 := by
  have h63 : (BitVec.ofInt 64 1).toNat = 2 ^ 1 - 1 := by decide
  have key : (BitVec.ofInt 64 n &&& BitVec.ofInt 64 1).toNat = (n % ((2 ^ 64 : Nat) : Int)).toNat % 2 ^ 1 := by
    rw [BitVec.toNat_and, BitVec.toNat_ofInt, h63, Nat.and_two_pow_sub_one_eq_mod]
  show IntKind.i64.wrap ((BitVec.ofInt 64 n &&& BitVec.ofInt 64 1).toNat : Nat) = n % 2
  rw [key, IntKind.wrap_i64]
  omega
theorem u8_or (x y : Nat) (hx : x < 16) (hy : y < 16) : bits .or .u8 ((x : Int) * 16) (y : Int) = ((x * 16 + y : Nat) : Int) := by
  have hp : x * 16 ||| y = x * 16 + y := by
    have := Nat.two_pow_add_eq_or_of_lt (i := 4) (b := y) (by omega) x
    rw [show 2 ^ 4 * x = x * 16 by omega] at this
    exact this.symm
  have h1 : BitVec.ofInt 8 ((x : Int) * 16) = BitVec.ofNat 8 (x * 16) := by
    rw [show ((x : Int) * 16) = ((x * 16 : Nat) : Int) by omega, BitVec.ofInt_natCast]
  show IntKind.u8.wrap ((BitVec.ofInt 8 ((x : Int) * 16) ||| BitVec.ofInt 8 (y : Int)).toNat : Nat) = _
  rw [h1, BitVec.ofInt_natCast, BitVec.toNat_or, BitVec.toNat_ofNat, BitVec.toNat_ofNat, Nat.mod_eq_of_lt (show x * 16 < 2 ^ 8 by omega), Nat.mod_eq_of_lt (show y < 2 ^ 8 by omega), hp]
  simp [IntKind.wrap, IntKind.signed, IntKind.bits]
  omega
end Go.Proofs.YtdbfikcpaionbaaDoor
/- Contract: the document's example of fingerprints. -/
namespace Go.Proofs.YtdbfikcpaionbaaDoor
open Go.RowKit
set_option linter.unusedVariables false
set_option linter.unusedSimpArgs false
def abcS' : ByteArray := ByteArray.mk #[98, 97, 55, 56, 49, 54, 98, 102, 56, 102, 48, 49, 99, 102, 101, 97, 52, 49, 52, 49, 52, 48, 100, 101, 53, 100, 97, 101, 50, 50, 50, 51, 98, 48, 48, 51, 54, 49, 97, 51, 57, 54, 49, 55, 55, 97, 57, 99, 98, 52, 49, 48, 102, 102, 54, 49, 102, 50, 48, 48, 49, 53, 97, 100]
theorem abcS_list : abcS'.toList = [98, 97, 55, 56, 49, 54, 98, 102, 56, 102, 48, 49, 99, 102, 101, 97, 52, 49, 52, 49, 52, 48, 100, 101, 53, 100, 97, 101, 50, 50, 50, 51, 98, 48, 48, 51, 54, 49, 97, 51, 57, 54, 49, 55, 55, 97, 57, 99, 98, 52, 49, 48, 102, 102, 54, 49, 102, 50, 48, 48, 49, 53, 97, 100] := ByteArray.toList_mk _
theorem abc_str : bstr (hexs (sha [97, 98, 99])) = abcS' := by
  rw [sha_abc]
  rfl
theorem rd_lit (w : World) (l : List Nat) (fr : Nat × Nat) : Rd (w.alloc (.cells (vb l) 5 fr)) (w.heap.size + 1) (some ⟨w.heap.size, 0, none⟩) (byt l) := fun _ => ⟨_, rfl, Nat.lt_succ_self _, fun j u hu => by
  rw [Addr.add_mid, Nat.zero_add, World.cell?_alloc_mark]
  show (byt l).toArray[j]? = some u
  rw [List.getElem?_toArray, hu]⟩
end Go.Proofs.YtdbfikcpaionbaaDoor
/- ShaTexts: the walk. -/
namespace Go.Proofs.YtdbfikcpaionbaaDoor
open Go.RowKit
set_option linter.unusedVariables false
set_option linter.unusedSimpArgs false
def RoundsAt (w : World) : Prop := (∀ i, i < 64 → w.cell? ⟨0, i, none⟩ = some (.int .u32 (kc.getD i 0 : Nat))) ∧ 0 < w.heap.size
theorem RoundsAt.next {w w' : World} (h : RoundsAt w) (hb : Below w.heap.size w w') : RoundsAt w' := ⟨fun i hi => (hb.cell (p := ⟨0, i, none⟩) h.2).trans (h.1 i hi), Nat.lt_of_lt_of_le h.2 hb.size⟩
end Go.Proofs.YtdbfikcpaionbaaDoor
/- Contract: the document's fingerprint: the first 16 words of a schedule. -/
namespace Go.Proofs.YtdbfikcpaionbaaDoor
open Go.RowKit
set_option linter.unusedVariables false
set_option linter.unusedSimpArgs false
set_option maxRecDepth 1000000 in
set_option maxHeartbeats 40000000 in
theorem loop4 (Q : Exit → Act → World → Prop) (wq : World) (gp nb kp j : Nat) (P CH : List Nat) (rest : List Value) (c0 c1 c2 c4 c5 c9 c10 c11 c12 c13 c14 c15 c16 c17 c18 c19 c20 c21 c22 c23 c24 c25 c26 c27 c28 c29 c30 c31 c32 c33 c34 c35 c36 c37 c38 c39 c40 c41 c42 c43 c44 c45 c46 c47 c48 c49 c50 c51 c52 c53 c54 c55 c56 c57 c58 c59 c60 c61 c62 c63 c64 c65 c66 c67 c68 c69 c70 c71 c72 c73 c74 c75 c76 c77 c78 c79 c80 c81 c82 c83 c84 c85 c86 c87 c88 c89 c90 c91 c92 c93 c94 c95 c96 c97 c98 c99 c100 c101 c102 c103 c104 c105 c106 c107 c108 c109 c110 c111 c112 c113 c114 c115 c116 c117 c118 c119 c120 c121 c122 c123 c124 c125 c126 c127 c128 c129 c130 c131 c132 c133 c134 c135 c136 c137 c138 c139 c140 c141 c142 c143 c144 c145 c146 c147 c148 c149 c150 c151 c152 c153 c154 c155 c156 c157 c158 c159 c160 c161 c162 c163 c164 c165 c166 c167 c168 c169 c170 c171 c172 c173 c174 c175 c176 c177 c178 c179 c180 c181 c182 c183 c184 c185 c186 c187 c188 c189 c190 c191 c192 c193 c194 c195 c196 c197 c198 c199 c200 c201 c202 c203 c204 c205 c206 c207 c208 c209 c210 c211 c212 c213 c214 c215 c216 c217 c218 c219 c220 c221 c222 c223 c224 c225 c226 c227 c228 c229 c230 c231 c232 c233 c234 c235 c236 c237 c238 c239 c240 c241 c242 c243 c244 c245 c246 c247 c248 c249 c250 c251 c252 c253 c254 c255 c256 c257 c258 c259 c260 c261 c262 c263 c264 c265 c266 c267 c268 c269 c270 c271 c272 c273 c274 c275 c276 c277 c278 c279 c280 c281 c282 c283 c284 : Value)
    (hlt : j < nb) (hnbl : nb ≤ 1000) (hkp : 64 * nb ≤ kp) (hkp2 : kp ≤ maxLen) (hCl : CH.length = 64)
    (HCL : Hid (∀ c ∈ CH, c < 256)) (HCP : Hid (∀ i, i < 64 → P.getD (64 * j + i) 0 = CH.getD i 0)) (HPN : Hid (P.length = 64 * nb))
    (HPQ : Hid (Blk wq gp 5 (byt P ++ rest).toArray))
    (hexit : ∀ (u8 u54 u55 u56 u57 u58 u59 u60 u61 u62 u63 u64 u65 u66 u67 u68 u69 u70 u71 u72 u73 : Value) (v : Value) (ws : World), OwnW ws wq.heap.size v (sch CH 16) → Below wq.heap.size wq ws → Q (.exit 4) ⟨(c0 :: c1 :: c2 :: (.slice (some ⟨gp, 0, none⟩) (64 * nb) kp) :: c4 :: c5 :: (.int .i64 (64 * (j : Int))) :: v :: u8 :: c9 :: c10 :: c11 :: c12 :: c13 :: c14 :: c15 :: c16 :: c17 :: c18 :: c19 :: c20 :: c21 :: c22 :: c23 :: c24 :: c25 :: c26 :: c27 :: c28 :: c29 :: c30 :: c31 :: c32 :: c33 :: c34 :: c35 :: c36 :: c37 :: c38 :: c39 :: c40 :: c41 :: c42 :: c43 :: c44 :: c45 :: c46 :: c47 :: c48 :: c49 :: c50 :: c51 :: c52 :: c53 :: u54 :: u55 :: u56 :: u57 :: u58 :: u59 :: u60 :: u61 :: u62 :: u63 :: u64 :: u65 :: u66 :: u67 :: u68 :: u69 :: u70 :: u71 :: u72 :: u73 :: c74 :: c75 :: c76 :: c77 :: c78 :: c79 :: c80 :: c81 :: c82 :: c83 :: c84 :: c85 :: c86 :: c87 :: c88 :: c89 :: c90 :: c91 :: c92 :: c93 :: c94 :: c95 :: c96 :: c97 :: c98 :: c99 :: c100 :: c101 :: c102 :: c103 :: c104 :: c105 :: c106 :: c107 :: c108 :: c109 :: c110 :: c111 :: c112 :: c113 :: c114 :: c115 :: c116 :: c117 :: c118 :: c119 :: c120 :: c121 :: c122 :: c123 :: c124 :: c125 :: c126 :: c127 :: c128 :: c129 :: c130 :: c131 :: c132 :: c133 :: c134 :: c135 :: c136 :: c137 :: c138 :: c139 :: c140 :: c141 :: c142 :: c143 :: c144 :: c145 :: c146 :: c147 :: c148 :: c149 :: c150 :: c151 :: c152 :: c153 :: c154 :: c155 :: c156 :: c157 :: c158 :: c159 :: c160 :: c161 :: c162 :: c163 :: c164 :: c165 :: c166 :: c167 :: c168 :: c169 :: c170 :: c171 :: c172 :: c173 :: c174 :: c175 :: c176 :: c177 :: c178 :: c179 :: c180 :: c181 :: c182 :: c183 :: c184 :: c185 :: c186 :: c187 :: c188 :: c189 :: c190 :: c191 :: c192 :: c193 :: c194 :: c195 :: c196 :: c197 :: c198 :: c199 :: c200 :: c201 :: c202 :: c203 :: c204 :: c205 :: c206 :: c207 :: c208 :: c209 :: c210 :: c211 :: c212 :: c213 :: c214 :: c215 :: c216 :: c217 :: c218 :: c219 :: c220 :: c221 :: c222 :: c223 :: c224 :: c225 :: c226 :: c227 :: c228 :: c229 :: c230 :: c231 :: c232 :: c233 :: c234 :: c235 :: c236 :: c237 :: c238 :: c239 :: c240 :: c241 :: c242 :: c243 :: c244 :: c245 :: c246 :: c247 :: c248 :: c249 :: c250 :: c251 :: c252 :: c253 :: c254 :: c255 :: c256 :: c257 :: c258 :: c259 :: c260 :: c261 :: c262 :: c263 :: c264 :: c265 :: c266 :: c267 :: c268 :: c269 :: c270 :: c271 :: c272 :: c273 :: c274 :: c275 :: c276 :: c277 :: c278 :: c279 :: c280 :: c281 :: c282 :: c283 :: c284 :: []).toArray, []⟩ ws) :
    Code.wp Tryd.prog (lp 4) Q ⟨(c0 :: c1 :: c2 :: (.slice (some ⟨gp, 0, none⟩) (64 * nb) kp) :: c4 :: c5 :: (.int .i64 (64 * (j : Int))) :: (.slice none 0 0) :: (.int .i64 0) :: c9 :: c10 :: c11 :: c12 :: c13 :: c14 :: c15 :: c16 :: c17 :: c18 :: c19 :: c20 :: c21 :: c22 :: c23 :: c24 :: c25 :: c26 :: c27 :: c28 :: c29 :: c30 :: c31 :: c32 :: c33 :: c34 :: c35 :: c36 :: c37 :: c38 :: c39 :: c40 :: c41 :: c42 :: c43 :: c44 :: c45 :: c46 :: c47 :: c48 :: c49 :: c50 :: c51 :: c52 :: c53 :: c54 :: c55 :: c56 :: c57 :: c58 :: c59 :: c60 :: c61 :: c62 :: c63 :: c64 :: c65 :: c66 :: c67 :: c68 :: c69 :: c70 :: c71 :: c72 :: c73 :: c74 :: c75 :: c76 :: c77 :: c78 :: c79 :: c80 :: c81 :: c82 :: c83 :: c84 :: c85 :: c86 :: c87 :: c88 :: c89 :: c90 :: c91 :: c92 :: c93 :: c94 :: c95 :: c96 :: c97 :: c98 :: c99 :: c100 :: c101 :: c102 :: c103 :: c104 :: c105 :: c106 :: c107 :: c108 :: c109 :: c110 :: c111 :: c112 :: c113 :: c114 :: c115 :: c116 :: c117 :: c118 :: c119 :: c120 :: c121 :: c122 :: c123 :: c124 :: c125 :: c126 :: c127 :: c128 :: c129 :: c130 :: c131 :: c132 :: c133 :: c134 :: c135 :: c136 :: c137 :: c138 :: c139 :: c140 :: c141 :: c142 :: c143 :: c144 :: c145 :: c146 :: c147 :: c148 :: c149 :: c150 :: c151 :: c152 :: c153 :: c154 :: c155 :: c156 :: c157 :: c158 :: c159 :: c160 :: c161 :: c162 :: c163 :: c164 :: c165 :: c166 :: c167 :: c168 :: c169 :: c170 :: c171 :: c172 :: c173 :: c174 :: c175 :: c176 :: c177 :: c178 :: c179 :: c180 :: c181 :: c182 :: c183 :: c184 :: c185 :: c186 :: c187 :: c188 :: c189 :: c190 :: c191 :: c192 :: c193 :: c194 :: c195 :: c196 :: c197 :: c198 :: c199 :: c200 :: c201 :: c202 :: c203 :: c204 :: c205 :: c206 :: c207 :: c208 :: c209 :: c210 :: c211 :: c212 :: c213 :: c214 :: c215 :: c216 :: c217 :: c218 :: c219 :: c220 :: c221 :: c222 :: c223 :: c224 :: c225 :: c226 :: c227 :: c228 :: c229 :: c230 :: c231 :: c232 :: c233 :: c234 :: c235 :: c236 :: c237 :: c238 :: c239 :: c240 :: c241 :: c242 :: c243 :: c244 :: c245 :: c246 :: c247 :: c248 :: c249 :: c250 :: c251 :: c252 :: c253 :: c254 :: c255 :: c256 :: c257 :: c258 :: c259 :: c260 :: c261 :: c262 :: c263 :: c264 :: c265 :: c266 :: c267 :: c268 :: c269 :: c270 :: c271 :: c272 :: c273 :: c274 :: c275 :: c276 :: c277 :: c278 :: c279 :: c280 :: c281 :: c282 :: c283 :: c284 :: []).toArray, []⟩ wq := by
  conv => arg 2; whnf
  obtain ⟨i4, hi4, hy0, hy1, hy2⟩ := info_word
  have hpb := HPQ.out.lt
  go_loopw [7, 8] (fun v vi ws => ∃ i : Nat, i ≤ 16 ∧ vi = .int .i64 (i : Int) ∧ OwnW ws wq.heap.size v (sch CH i) ∧ Below wq.heap.size wq ws) (fun _ vi _ => 16 - (intOf vi).toNat)
  case atStart => exact ⟨0, by omega, rfl, OwnW.nil_ _ _, Below.refl _ _⟩
  case round =>
    rename World => ws
    obtain ⟨i, hi, rfl, ho, hb⟩ := hrel
    obtain ⟨A7, k7, rfl, _, _, _⟩ := ho.rd
    have HOW := Lib.hid ho
    have HBW := Lib.hid hb
    clear ho hb
    have HSL := Lib.hid (sch_len CH i)
    by_cases hlt : i < 16
    · have hlow : 64 * j + 4 * i + 4 ≤ 64 * nb := by omega
      have x1 : (0 : Int) ≤ 64 * (j : Int) + 4 * (i : Int) := by omega
      have x2 : (64 * (j : Int) + 4 * (i : Int) + 4) ≤ (kp : Int) := by omega
      have x3 : (64 * (j : Int) + 4 * (i : Int)).toNat = 64 * j + 4 * i := by omega
      have x4 : (64 * (j : Int) + 4 * (i : Int) + 4).toNat = 64 * j + 4 * i + 4 := by omega
      have hbe := be4_lt HCL.out i
      have hnx : sch CH (i + 1) = sch CH i ++ [be4 CH i] := by
        show sch CH i ++ [nxt CH (sch CH i) i] = _
        unfold nxt; rw [if_pos hlt]
      have HNU := Lib.hid (num4_c gp (64 * j) i (kp - (64 * j + 4 * i)) P CH rest hlt hCl HCL.out HCP.out (by have := HPN.out; omega))
      have HNX := Lib.hid hnx
      have HPW := Lib.hid (HPQ.out.below HBW.out HPQ.out.lt)
      clear hnx
      generalize be4 CH i = y at *
      go_wp2_with (first
        | (go_at_call 48; (refine (HNU.out ws HPW.out).mono ?_); rintro e wn ⟨rfl, rfl⟩)
        | (at_builtin; refine wpList_app _ rfl (.tmp 58) (.tmp 72) _ rfl wq.heap.size 78 i4 (.int .u32 0) 1 4 Tryd.underlying84 hi4 hy0 hy1 hy2 rfl (by decide) _ _ _ rfl (HOW.out.alloc _) _ _ 1 1 [.int .u32 (y : Nat)] rfl rfl (by exact rd_oneW _ _) (w32_one [_]) (by have := HSL.out; omega) (by have := HSL.out; omega) (by have := HBW.out.size; simp; omega) ?_; intro v9 w9 hap; have HO9 := Lib.hid (show OwnW w9 wq.heap.size v9 (sch CH (i + 1)) from by rw [HNX.out]; exact OwnW.snoc hap); have HB9 := Lib.hid (show Below wq.heap.size wq w9 from (HBW.out.alloc HBW.out.size _).trans (hap.below (HOW.out.alloc _) (by have := HBW.out.size; simp; omega))); clear hap))
      refine ⟨⟨i + 1, by omega, by congr 1, HO9.out, HB9.out⟩, ?_⟩
      simp only [intOf]; omega
    · obtain rfl : i = 16 := by omega
      go_wp2_with fail
      exact hexit _ _ _ _ _ _ _ _ _ _ _ _ _ _ _ _ _ _ _ _ _ _ _ HOW.out HBW.out
end Go.Proofs.YtdbfikcpaionbaaDoor
/- Contract: the document's fingerprint: the other words of a schedule. -/
namespace Go.Proofs.YtdbfikcpaionbaaDoor
open Go.RowKit
set_option linter.unusedVariables false
set_option linter.unusedSimpArgs false
set_option maxRecDepth 1000000 in
set_option maxHeartbeats 40000000 in
theorem loop6 (Q : Exit → Act → World → Prop) (wq : World) (base : Nat) (CH : List Nat) (v t134 : Value) (c0 c1 c2 c3 c4 c5 c6 c8 c10 c11 c12 c13 c14 c15 c16 c17 c18 c19 c20 c21 c22 c23 c24 c25 c26 c27 c28 c29 c30 c31 c32 c33 c34 c35 c36 c37 c38 c39 c40 c41 c42 c43 c44 c45 c46 c47 c48 c49 c50 c51 c52 c53 c54 c55 c56 c57 c58 c59 c60 c61 c62 c63 c64 c65 c66 c67 c68 c69 c70 c71 c72 c73 c74 c75 c76 c77 c78 c79 c80 c81 c82 c83 c84 c85 c86 c87 c88 c89 c90 c91 c92 c93 c94 c95 c96 c97 c98 c99 c100 c101 c102 c103 c104 c105 c106 c107 c108 c109 c110 c111 c112 c113 c114 c115 c116 c117 c118 c119 c120 c121 c122 c123 c124 c125 c126 c127 c128 c129 c130 c131 c132 c133 c135 c136 c137 c138 c139 c140 c141 c142 c143 c144 c145 c146 c147 c148 c149 c150 c151 c152 c153 c154 c155 c156 c157 c158 c159 c160 c161 c162 c163 c164 c165 c166 c167 c168 c169 c170 c171 c172 c173 c174 c175 c176 c177 c178 c179 c180 c181 c182 c183 c184 c185 c186 c187 c188 c189 c190 c191 c192 c193 c194 c195 c196 c197 c198 c199 c200 c201 c202 c203 c204 c205 c206 c207 c208 c209 c210 c211 c212 c213 c214 c215 c216 c217 c218 c219 c220 c221 c222 c223 c224 c225 c226 c227 c228 c229 c230 c231 c232 c233 c234 c235 c236 c237 c238 c239 c240 c241 c242 c243 c244 c245 c246 c247 c248 c249 c250 c251 c252 c253 c254 c255 c256 c257 c258 c259 c260 c261 c262 c263 c264 c265 c266 c267 c268 c269 c270 c271 c272 c273 c274 c275 c276 c277 c278 c279 c280 c281 c282 c283 c284 : Value)
    (HCL : Hid (∀ c ∈ CH, c < 256)) (HOW : Hid (OwnW wq base v (sch CH 16))) (hbase : base ≤ wq.heap.size) (h134 : isTok t134 = false)
    (hexit : ∀ (u9 u10 u11 u74 u75 u76 u77 u78 u79 u80 u81 u82 u83 u84 u85 u86 u87 u88 u89 u90 u91 u92 u93 u94 u95 u96 u97 u98 u99 u100 u101 u102 u103 u104 u105 u106 u107 u108 u109 u110 u111 u112 u113 u114 u115 u116 u117 u118 u119 u120 u121 u122 u123 u124 u125 u126 u127 u128 u129 u130 u131 u132 u133 u135 : Value) (v t134 : Value) (ws : World), isTok t134 = false → OwnW ws base v (sch CH 64) → Below base wq ws → Q (.exit 6) ⟨(c0 :: c1 :: c2 :: c3 :: c4 :: c5 :: c6 :: v :: c8 :: u9 :: u10 :: u11 :: c12 :: c13 :: c14 :: c15 :: c16 :: c17 :: c18 :: c19 :: c20 :: c21 :: c22 :: c23 :: c24 :: c25 :: c26 :: c27 :: c28 :: c29 :: c30 :: c31 :: c32 :: c33 :: c34 :: c35 :: c36 :: c37 :: c38 :: c39 :: c40 :: c41 :: c42 :: c43 :: c44 :: c45 :: c46 :: c47 :: c48 :: c49 :: c50 :: c51 :: c52 :: c53 :: c54 :: c55 :: c56 :: c57 :: c58 :: c59 :: c60 :: c61 :: c62 :: c63 :: c64 :: c65 :: c66 :: c67 :: c68 :: c69 :: c70 :: c71 :: c72 :: c73 :: u74 :: u75 :: u76 :: u77 :: u78 :: u79 :: u80 :: u81 :: u82 :: u83 :: u84 :: u85 :: u86 :: u87 :: u88 :: u89 :: u90 :: u91 :: u92 :: u93 :: u94 :: u95 :: u96 :: u97 :: u98 :: u99 :: u100 :: u101 :: u102 :: u103 :: u104 :: u105 :: u106 :: u107 :: u108 :: u109 :: u110 :: u111 :: u112 :: u113 :: u114 :: u115 :: u116 :: u117 :: u118 :: u119 :: u120 :: u121 :: u122 :: u123 :: u124 :: u125 :: u126 :: u127 :: u128 :: u129 :: u130 :: u131 :: u132 :: u133 :: t134 :: u135 :: c136 :: c137 :: c138 :: c139 :: c140 :: c141 :: c142 :: c143 :: c144 :: c145 :: c146 :: c147 :: c148 :: c149 :: c150 :: c151 :: c152 :: c153 :: c154 :: c155 :: c156 :: c157 :: c158 :: c159 :: c160 :: c161 :: c162 :: c163 :: c164 :: c165 :: c166 :: c167 :: c168 :: c169 :: c170 :: c171 :: c172 :: c173 :: c174 :: c175 :: c176 :: c177 :: c178 :: c179 :: c180 :: c181 :: c182 :: c183 :: c184 :: c185 :: c186 :: c187 :: c188 :: c189 :: c190 :: c191 :: c192 :: c193 :: c194 :: c195 :: c196 :: c197 :: c198 :: c199 :: c200 :: c201 :: c202 :: c203 :: c204 :: c205 :: c206 :: c207 :: c208 :: c209 :: c210 :: c211 :: c212 :: c213 :: c214 :: c215 :: c216 :: c217 :: c218 :: c219 :: c220 :: c221 :: c222 :: c223 :: c224 :: c225 :: c226 :: c227 :: c228 :: c229 :: c230 :: c231 :: c232 :: c233 :: c234 :: c235 :: c236 :: c237 :: c238 :: c239 :: c240 :: c241 :: c242 :: c243 :: c244 :: c245 :: c246 :: c247 :: c248 :: c249 :: c250 :: c251 :: c252 :: c253 :: c254 :: c255 :: c256 :: c257 :: c258 :: c259 :: c260 :: c261 :: c262 :: c263 :: c264 :: c265 :: c266 :: c267 :: c268 :: c269 :: c270 :: c271 :: c272 :: c273 :: c274 :: c275 :: c276 :: c277 :: c278 :: c279 :: c280 :: c281 :: c282 :: c283 :: c284 :: []).toArray, []⟩ ws) :
    Code.wp Tryd.prog (lp 6) Q ⟨(c0 :: c1 :: c2 :: c3 :: c4 :: c5 :: c6 :: v :: c8 :: (.int .i64 16) :: c10 :: c11 :: c12 :: c13 :: c14 :: c15 :: c16 :: c17 :: c18 :: c19 :: c20 :: c21 :: c22 :: c23 :: c24 :: c25 :: c26 :: c27 :: c28 :: c29 :: c30 :: c31 :: c32 :: c33 :: c34 :: c35 :: c36 :: c37 :: c38 :: c39 :: c40 :: c41 :: c42 :: c43 :: c44 :: c45 :: c46 :: c47 :: c48 :: c49 :: c50 :: c51 :: c52 :: c53 :: c54 :: c55 :: c56 :: c57 :: c58 :: c59 :: c60 :: c61 :: c62 :: c63 :: c64 :: c65 :: c66 :: c67 :: c68 :: c69 :: c70 :: c71 :: c72 :: c73 :: c74 :: c75 :: c76 :: c77 :: c78 :: c79 :: c80 :: c81 :: c82 :: c83 :: c84 :: c85 :: c86 :: c87 :: c88 :: c89 :: c90 :: c91 :: c92 :: c93 :: c94 :: c95 :: c96 :: c97 :: c98 :: c99 :: c100 :: c101 :: c102 :: c103 :: c104 :: c105 :: c106 :: c107 :: c108 :: c109 :: c110 :: c111 :: c112 :: c113 :: c114 :: c115 :: c116 :: c117 :: c118 :: c119 :: c120 :: c121 :: c122 :: c123 :: c124 :: c125 :: c126 :: c127 :: c128 :: c129 :: c130 :: c131 :: c132 :: c133 :: t134 :: c135 :: c136 :: c137 :: c138 :: c139 :: c140 :: c141 :: c142 :: c143 :: c144 :: c145 :: c146 :: c147 :: c148 :: c149 :: c150 :: c151 :: c152 :: c153 :: c154 :: c155 :: c156 :: c157 :: c158 :: c159 :: c160 :: c161 :: c162 :: c163 :: c164 :: c165 :: c166 :: c167 :: c168 :: c169 :: c170 :: c171 :: c172 :: c173 :: c174 :: c175 :: c176 :: c177 :: c178 :: c179 :: c180 :: c181 :: c182 :: c183 :: c184 :: c185 :: c186 :: c187 :: c188 :: c189 :: c190 :: c191 :: c192 :: c193 :: c194 :: c195 :: c196 :: c197 :: c198 :: c199 :: c200 :: c201 :: c202 :: c203 :: c204 :: c205 :: c206 :: c207 :: c208 :: c209 :: c210 :: c211 :: c212 :: c213 :: c214 :: c215 :: c216 :: c217 :: c218 :: c219 :: c220 :: c221 :: c222 :: c223 :: c224 :: c225 :: c226 :: c227 :: c228 :: c229 :: c230 :: c231 :: c232 :: c233 :: c234 :: c235 :: c236 :: c237 :: c238 :: c239 :: c240 :: c241 :: c242 :: c243 :: c244 :: c245 :: c246 :: c247 :: c248 :: c249 :: c250 :: c251 :: c252 :: c253 :: c254 :: c255 :: c256 :: c257 :: c258 :: c259 :: c260 :: c261 :: c262 :: c263 :: c264 :: c265 :: c266 :: c267 :: c268 :: c269 :: c270 :: c271 :: c272 :: c273 :: c274 :: c275 :: c276 :: c277 :: c278 :: c279 :: c280 :: c281 :: c282 :: c283 :: c284 :: []).toArray, []⟩ wq := by
  conv => arg 2; whnf
  obtain ⟨i4, hi4, hy0, hy1, hy2⟩ := info_word
  go_loopw [7, 9, 134] (fun v vi vt ws => ∃ k : Nat, isTok vt = false ∧ 16 ≤ k ∧ k ≤ 64 ∧ vi = .int .i64 (k : Int) ∧ OwnW ws base v (sch CH k) ∧ Below base wq ws) (fun _ vi _ _ => 64 - (intOf vi).toNat)
  case atStart => exact ⟨16, h134, by omega, by omega, rfl, HOW.out, Below.refl _ _⟩
  case round =>
    clear HOW
    rename World => ws
    obtain ⟨k, ht, hk16, hk64, rfl, ho, hb⟩ := hrel
    obtain ⟨A8, k8, rfl, _, _, hr8⟩ := ho.rd
    have HOW := Lib.hid ho
    have HBW := Lib.hid hb
    have HSL := Lib.hid (sch_len CH k)
    have HT := Lib.hid ht
    clear ht
    obtain ⟨ad8, rfl, hab, hc8⟩ := hr8.wordAt (by rw [sch_len]; omega)
    rw [sch_len] at hc8
    clear ho hb hr8
    by_cases hlt : k < 64
    · have hnx : sch CH (k + 1) = sch CH k ++ [ad (ad (ad ((sch CH k).getD (k - 16) 0) (s0 ((sch CH k).getD (k - 15) 0))) ((sch CH k).getD (k - 7) 0)) (s1 ((sch CH k).getD (k - 2) 0))] := by
        show sch CH k ++ [nxt CH (sch CH k) k] = _
        unfold nxt; rw [if_neg (by omega)]
      have HNX := Lib.hid hnx
      have q0 := hc8 (k - 16) (by omega)
      have q1 := hc8 (k - 15) (by omega)
      have q2 := hc8 (k - 7) (by omega)
      have q3 := hc8 (k - 2) (by omega)
      have x0 := sch_at_lt HCL.out k (k - 16)
      have x1 := sch_at_lt HCL.out k (k - 15)
      have x2 := sch_at_lt HCL.out k (k - 7)
      have x3 := sch_at_lt HCL.out k (k - 2)
      clear hnx hc8
      generalize (sch CH k).getD (k - 16) 0 = y0 at *
      generalize (sch CH k).getD (k - 15) 0 = y1 at *
      generalize (sch CH k).getD (k - 7) 0 = y2 at *
      generalize (sch CH k).getD (k - 2) 0 = y3 at *
      have K7 := Lib.hid (show ∀ W, Calls Tryd.prog 49 #[.int .u32 (y1 : Nat), .int .i64 7] W fun e w' => e = .returned (.int .u32 (rotr y1 7 : Nat)) ∧ W = w' from fun W => rturn_c y1 7 W x1 (by decide))
      have K18 := Lib.hid (show ∀ W, Calls Tryd.prog 49 #[.int .u32 (y1 : Nat), .int .i64 18] W fun e w' => e = .returned (.int .u32 (rotr y1 18 : Nat)) ∧ W = w' from fun W => rturn_c y1 18 W x1 (by decide))
      have K17 := Lib.hid (show ∀ W, Calls Tryd.prog 49 #[.int .u32 (y3 : Nat), .int .i64 17] W fun e w' => e = .returned (.int .u32 (rotr y3 17 : Nat)) ∧ W = w' from fun W => rturn_c y3 17 W x3 (by decide))
      have K19 := Lib.hid (show ∀ W, Calls Tryd.prog 49 #[.int .u32 (y3 : Nat), .int .i64 19] W fun e w' => e = .returned (.int .u32 (rotr y3 19 : Nat)) ∧ W = w' from fun W => rturn_c y3 19 W x3 (by decide))
      have K3 := Lib.hid (show ∀ W, Calls Tryd.prog 50 #[.int .u32 (y1 : Nat), .int .i64 3] W fun e w' => e = .returned (.int .u32 (y1 / 2 ^ 3 : Nat)) ∧ W = w' from fun W => rcut_c y1 3 W x1 (by decide))
      have K10 := Lib.hid (show ∀ W, Calls Tryd.prog 50 #[.int .u32 (y3 : Nat), .int .i64 10] W fun e w' => e = .returned (.int .u32 (y3 / 2 ^ 10 : Nat)) ∧ W = w' from fun W => rcut_c y3 10 W x3 (by decide))
      have f1 : bits BinOp.xor .u32 ((rotr y1 7 : Nat) : Int) ((rotr y1 18 : Nat) : Int) = ((rotr y1 7 ^^^ rotr y1 18 : Nat) : Int) := u32_xor_nat _ _ (rotr_lt x1 (by decide)) (rotr_lt x1 (by decide))
      have f2 : bits BinOp.xor .u32 ((rotr y1 7 ^^^ rotr y1 18 : Nat) : Int) ((y1 / 2 ^ 3 : Nat) : Int) = ((s0 y1 : Nat) : Int) := u32_xor_nat _ _ (xor_w (rotr_lt x1 (by decide)) (rotr_lt x1 (by decide))) (Nat.lt_of_le_of_lt (Nat.div_le_self _ _) x1)
      have f3 : bits BinOp.xor .u32 ((rotr y3 17 : Nat) : Int) ((rotr y3 19 : Nat) : Int) = ((rotr y3 17 ^^^ rotr y3 19 : Nat) : Int) := u32_xor_nat _ _ (rotr_lt x3 (by decide)) (rotr_lt x3 (by decide))
      have f4 : bits BinOp.xor .u32 ((rotr y3 17 ^^^ rotr y3 19 : Nat) : Int) ((y3 / 2 ^ 10 : Nat) : Int) = ((s1 y3 : Nat) : Int) := u32_xor_nat _ _ (xor_w (rotr_lt x3 (by decide)) (rotr_lt x3 (by decide))) (Nat.lt_of_le_of_lt (Nat.div_le_self _ _) x3)
      have a1 := wrap32_add y0 (s0 y1)
      have a2 := wrap32_add (ad y0 (s0 y1)) y2
      have a3 := wrap32_add (ad (ad y0 (s0 y1)) y2) (s1 y3)
      generalize ad (ad (ad y0 (s0 y1)) y2) (s1 y3) = r3 at *
      generalize ad (ad y0 (s0 y1)) y2 = r2 at *
      generalize ad y0 (s0 y1) = r1 at *
      generalize s0 y1 = t0 at *
      generalize s1 y3 = t1 at *
      generalize rotr y1 7 ^^^ rotr y1 18 = p0 at *
      generalize rotr y3 17 ^^^ rotr y3 19 = p1 at *
      generalize rotr y1 7 = p2 at *
      generalize rotr y1 18 = p3 at *
      generalize rotr y3 17 = p4 at *
      generalize rotr y3 19 = p5 at *
      generalize y1 / 2 ^ 3 = p6 at *
      generalize y3 / 2 ^ 10 = p7 at *
      have i1 : IntKind.i64.wrap ((k : Int) - 16) = ((k - 16 : Nat) : Int) := by simp [IntKind.wrap, IntKind.signed, IntKind.bits]; omega
      have i2 : IntKind.i64.wrap ((k : Int) - 15) = ((k - 15 : Nat) : Int) := by simp [IntKind.wrap, IntKind.signed, IntKind.bits]; omega
      have i3 : IntKind.i64.wrap ((k : Int) - 7) = ((k - 7 : Nat) : Int) := by simp [IntKind.wrap, IntKind.signed, IntKind.bits]; omega
      have i4' : IntKind.i64.wrap ((k : Int) - 2) = ((k - 2 : Nat) : Int) := by simp [IntKind.wrap, IntKind.signed, IntKind.bits]; omega
      have b1 : k - 16 < (sch CH k).length := by rw [sch_len]; omega
      have b2 : k - 15 < (sch CH k).length := by rw [sch_len]; omega
      have b3 : k - 7 < (sch CH k).length := by rw [sch_len]; omega
      have b4 : k - 2 < (sch CH k).length := by rw [sch_len]; omega
      have b1' : ((k - 16 : Nat) : Int) < ((sch CH k).length : Int) := by omega
      have b2' : ((k - 15 : Nat) : Int) < ((sch CH k).length : Int) := by omega
      have b3' : ((k - 7 : Nat) : Int) < ((sch CH k).length : Int) := by omega
      have b4' : ((k - 2 : Nat) : Int) < ((sch CH k).length : Int) := by omega
      go_wp2_with fail
      refine wp_region_quiet_lit (by kernel_rfl) (by kernel_rfl) ?_
      repeat (go_big_quiet_step ((first
        | (go_at_call 49; with_reducible exact (K7.out _).mono fun _ _ h => ⟨h.1, _, h.2.symm⟩)
        | (go_at_call 49; with_reducible exact (K18.out _).mono fun _ _ h => ⟨h.1, _, h.2.symm⟩)
        | (go_at_call 50; exact (K3.out _).mono fun _ _ h => ⟨h.1, _, h.2.symm⟩))))
      refine wpQuiet_nil ?_
      rintro _ ⟨n6, rfl⟩
      go_wp2_with fail
      refine wp_region_quiet_lit (by kernel_rfl) (by kernel_rfl) ?_
      repeat (go_big_quiet_step ((first
        | (go_at_call 49; with_reducible exact (K17.out _).mono fun _ _ h => ⟨h.1, _, h.2.symm⟩)
        | (go_at_call 49; with_reducible exact (K19.out _).mono fun _ _ h => ⟨h.1, _, h.2.symm⟩)
        | (go_at_call 50; exact (K10.out _).mono fun _ _ h => ⟨h.1, _, h.2.symm⟩))))
      refine wpQuiet_nil ?_
      rintro _ ⟨n7, rfl⟩
      go_wp2_with fail
      have HAD := Lib.hid hab
      obtain ⟨Y, hY⟩ : ∃ Y, Y = (ws.drewN n6).drewN n7 := ⟨_, rfl⟩
      have hby : Below ws.heap.size ws Y := by rw [hY]; exact belowDrewN n7 (belowDrewN n6 (Below.refl _ _))
      have z0 := cell_ext (show Y.cell? (ad8.add (k - 16)) = some (.int .u32 (y0 : Nat)) from by rw [hY]; exact q0)
      have z2 := cell_ext (show Y.cell? (ad8.add (k - 7)) = some (.int .u32 (y2 : Nat)) from by rw [hY]; exact q2)
      have HBY := Lib.hid hby
      have HOY := Lib.hid (HOW.out.next hby)
      have HBQ := Lib.hid (HBW.out.trans (hby.mono (Nat.le_trans hbase HBW.out.size)))
      rw [← hY]
      clear hY q0 q1 q2 q3 hby x0 x1 x2 x3 K7 K18 K17 K19 K3 K10 f1 f2 f3 f4 HOW HBW
      refine wp_region_loudTail 17 Y [134] (fun _ u w => OwnW w Y.heap.size u [r3]) (by kernel_rfl) (by kernel_rfl) (by kernel_rfl) (by have h := HT.out; exact congrArg (fun b => !b && true) h) (fun _ _ _ _ h hb => OwnW.next h hb) (Below.refl _ _).drew ?_
      simp only [List.take_succ_cons, List.take_zero, List.drop_succ_cons, List.drop_zero]
      repeat (first
        | (refine wpLoud_plain rfl rfl rfl ?_; intro K hK; go_big_quiet_op; go_big_quiet_on)
        | (refine wpLoud_make rfl (fun _ _ h => by cases h) rfl 134 rfl rfl (fun y => ⟨_, _, run_oneW y.wd r3 (.tmp 133) rfl rfl, (Below.refl _ _).alloc (Nat.le_refl _) _, OwnW.new y.wd _ [r3] y.2.size (by simp [maxLen])⟩) _ (by simp only [Act.put, List.setIfInBounds_toArray, List.set_cons_succ, List.set_cons_zero]; rfl) ?_))
      refine wpLoud_end [134] (by rfl) ?_
      intro g z hg
      have h134' : OwnW z.wd Y.heap.size (g 134) [r3] := hg 134 (by simp)
      obtain ⟨A9, k9, e9, _, _, r9⟩ := h134'.rd
      have HR9 := Lib.hid r9
      have HOZ := Lib.hid (HOY.out.next z.bel)
      have HBZ := Lib.hid (HBQ.out.trans (z.bel.mono (Nat.le_trans hbase HBQ.out.size)))
      generalize z.wd = Y2 at *
      simp only [fill, Act.put, List.setIfInBounds_toArray, List.set_cons_succ, List.set_cons_zero]
      rw [e9]
      clear hg h134' r9 e9 z0 z2
      go_wp2_with (at_builtin; refine wpList_app _ rfl (.tmp 118) (.tmp 134) _ rfl base 78 i4 (.int .u32 0) 1 4 Tryd.underlying84 hi4 hy0 hy1 hy2 rfl (by decide) _ _ _ rfl HOZ.out _ A9 1 k9 (w32 [r3]) rfl rfl HR9.out (w32_one [_]) (by have := HSL.out; omega) (by have := HSL.out; omega) (by have := HBZ.out.size; omega) ?_; intro v9 w9 hap; have HO9 := Lib.hid (show OwnW w9 base v9 (sch CH (k + 1)) from by rw [HNX.out]; exact OwnW.snoc hap); have HB9 := Lib.hid (show Below base wq w9 from HBZ.out.trans (hap.below HOZ.out (by have := HBZ.out.size; omega))); clear hap)
      refine ⟨⟨k + 1, by rfl, by omega, by omega, by congr 1, HO9.out, HB9.out⟩, ?_⟩
      simp only [intOf]; omega
    · obtain rfl : k = 64 := by omega
      go_wp2_with fail
      exact hexit _ _ _ _ _ _ _ _ _ _ _ _ _ _ _ _ _ _ _ _ _ _ _ _ _ _ _ _ _ _ _ _ _ _ _ _ _ _ _ _ _ _ _ _ _ _ _ _ _ _ _ _ _ _ _ _ _ _ _ _ _ _ _ _ _ _ _ HT.out HOW.out HBW.out
end Go.Proofs.YtdbfikcpaionbaaDoor
