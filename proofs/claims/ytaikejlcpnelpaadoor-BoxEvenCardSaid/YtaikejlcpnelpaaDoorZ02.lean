/- Parts, one behind the other: Lou Bas2 Df1 Df2 Df3 Df4 Df5 Df6 Df7. -/
import Derived.Test.YtaikejlcpnelpaaDoorZ01
import Derived.Deep.MidRow
import Derived.BigQuiet
import Derived.StillTailTactics
import Derived.WalkMore
import Derived.Laws.Rows
import Derived.Laws.ResultCell
import Derived.WalkLawsBesides
import Derived.Great.BuildSlice
import Derived.DataElems
import Derived.IntWalk
/- Regions that draw their order and hold calls whose answers hang on the order (addresses of new memory): one walk of the text's order serves all. -/
namespace Go.Proofs.YtaikejlcpnelpaaDoor
set_option maxRecDepth 100000
open Go.RowKit
set_option linter.unusedVariables false
/-- stands in the walk's frame for what a loud call handed back -/
def tok : Value := .bool true
def isTok (v : Value) : Bool := match v with | .bool true => true | _ => false
theorem isTok_eq {v : Value} (h : isTok v = true) : v = tok := by
  unfold isTok at h; split at h
  · rfl
  · cases h
section
variable {P : Program} {ops : Array Oper} {md : Region.Mode} {Z : World} {ls : List Tmp} {V : Tmp → Value → World → Prop}
def SimAt (ls : List Tmp) (V : Tmp → Value → World → Prop) (b a : Act) (w : World) (k : Tmp) : Prop :=
  (ls.contains k = true → b.eval (.tmp k) = tok → V k (a.eval (.tmp k)) w) ∧ (ls.contains k = false → a.eval (.tmp k) = b.eval (.tmp k))
structure Sim (ls : List Tmp) (V : Tmp → Value → World → Prop) (b a : Act) (w : World) : Prop where
  de : a.defers = b.defers
  sz : a.tmps.size = b.tmps.size
  at_ : ∀ k, SimAt ls V b a w k
def LoudUpon (P : Program) (ls : List Tmp) (V : Tmp → Value → World → Prop) (dst : Option Tmp) (w : World) (v : Value) : Result Next → Prop
  | .ok (.value u) w' => (w' = w ∧ u = v ∧ ∀ d, dst = some d → ls.contains d = false) ∨ (Below w.heap.size w w' ∧ ∀ d, dst = some d → ls.contains d = true ∧ V d u w')
  | .ok (.enter f args) w' => w' = w ∧ Calls P f args w (fun e w'' => ∃ u, e = .returned u ∧ Below w.heap.size w w'' ∧ ∀ d, dst = some d → (ls.contains d = true → V d u w'') ∧ (ls.contains d = false → u = v))
  | _ => False
def LQ (P : Program) (ops : Array Oper) (Z : World) (ls : List Tmp) (V : Tmp → Value → World → Prop) (o : Oper) (b : Act) (v : Value) : Prop :=
  ∀ a w, Below Z.heap.size Z w → (∀ k ∈ o.looksAt ops, SimAt ls V b a w k) → LoudUpon P ls V o.dst w v ((execOp a.eval o).run P w)
theorem LQ.put {o : Oper} {b : Act} {v u : Value} {dst : Option Tmp} (h : ∀ d, dst = some d → d ∉ o.looksAt ops) (hq : LQ P ops Z ls V o b v) : LQ P ops Z ls V o (b.put dst u) v := fun a w hC hs =>
  hq a w hC fun k hk => by
    have := hs k hk
    unfold SimAt at *
    rw [Act.eval_put (a := b) (dst := dst) (v := u) (x := .tmp k) (fun d hd he => h d hd (by injection he with he; rw [← he]; exact hk))] at this
    exact this
theorem LQ.unput {o : Oper} {b : Act} {v u : Value} {dst : Option Tmp} (h : ∀ d, dst = some d → d ∉ o.looksAt ops) (hq : LQ P ops Z ls V o (b.put dst u) v) : LQ P ops Z ls V o b v := fun a w hC hs =>
  hq a w hC fun k hk => by
    have := hs k hk
    unfold SimAt at *
    rw [Act.eval_put (a := b) (dst := dst) (v := u) (x := .tmp k) (fun d hd he => h d hd (by injection he with he; rw [← he]; exact hk))]
    exact this
def wpLoud (P : Program) (ops : Array Oper) (Z : World) (ls : List Tmp) (V : Tmp → Value → World → Prop) (Q : Act → Prop) : List Oper → Act → Prop
  | [], b => Q b
  | o :: rest, b => if Region.wanted o (yielded ops b.tmps) then ∃ v, LQ P ops Z ls V o b v ∧ wpLoud P ops Z ls V Q rest (b.put o.dst v) else wpLoud P ops Z ls V Q rest (b.put o.dst undef)
def lOp (P : Program) (ops : Array Oper) (Z : World) (ls : List Tmp) (V : Tmp → Value → World → Prop) (i : Nat) (K : Act → Prop) (b : Act) : Prop :=
  match ops[i]? with
  | none => K b
  | some o => if Region.wanted o (yielded ops b.tmps) then ∃ v, LQ P ops Z ls V o b v ∧ K (b.put o.dst v) else K (b.put o.dst undef)
theorem lOp_mono {i : Nat} {b : Act} {K K' : Act → Prop} (h : ∀ b, K b → K' b) (hh : lOp P ops Z ls V i K b) : lOp P ops Z ls V i K' b := by
  unfold lOp at *
  split
  · exact h _ (by simpa [*] using hh)
  · rename_i o ho
    simp only [ho] at hh
    split
    · rename_i hw; simp only [hw, if_true] at hh; obtain ⟨v, h1, h2⟩ := hh; exact ⟨v, h1, h _ h2⟩
    · rename_i hw; simp only [hw] at hh; exact h _ hh
def wpAnyL (P : Program) (md : Region.Mode) (ops : Array Oper) (Z : World) (ls : List Tmp) (V : Tmp → Value → World → Prop) (Q : Act → Prop) : Nat → Array Bool → Act → Prop
  | 0, listed, b => Region.ready md ops listed = [] ∧ Q b
  | fuel + 1, listed, b =>
    (Region.ready md ops listed = [] → Q b) ∧
    ∀ i ∈ Region.ready md ops listed, lOp P ops Z ls V i (wpAnyL P md ops Z ls V Q fuel (listed.setIfInBounds i true)) b
theorem eval_put_at (a : Act) (d : Tmp) (v : Value) (k : Tmp) : (a.put (some d) v).eval (.tmp k) = if k = d ∧ d < a.tmps.size then v else a.eval (.tmp k) := by
  by_cases h : k = d
  · subst h
    by_cases h2 : k < a.tmps.size
    · rw [if_pos ⟨rfl, h2⟩]
      simp [Act.put, Act.eval, h2]
    · rw [if_neg (fun h3 => h2 h3.2)]
      simp [Act.put, Act.eval, h2]
  · rw [if_neg (fun h3 => h h3.1)]
    exact Act.eval_put fun e he hx => h (by injection he with he; injection hx with hx; rw [hx, he])
theorem Sim.put {b a : Act} {w : World} (h : Sim ls V b a w) (dst : Option Tmp) (v u : Value) (hd : ∀ d, dst = some d → (ls.contains d = true → v = tok → V d u w) ∧ (ls.contains d = false → u = v)) : Sim ls V (b.put dst v) (a.put dst u) w := by
  cases dst with
  | none => exact h
  | some d =>
    obtain ⟨h1, h2⟩ := hd d rfl
    refine ⟨h.de, by simp [Act.put, h.sz], fun k => ?_⟩
    obtain ⟨s1, s2⟩ := h.at_ k
    unfold SimAt
    rw [eval_put_at, eval_put_at, h.sz]
    by_cases hk : k = d ∧ d < b.tmps.size
    · rw [if_pos hk, if_pos hk]
      obtain ⟨rfl, _⟩ := hk
      exact ⟨h1, h2⟩
    · rw [if_neg hk, if_neg hk]
      exact ⟨s1, s2⟩
theorem Sim.next {b a : Act} {w w' : World} (hV : ∀ k u w w', V k u w → Below w.heap.size w w' → V k u w') (h : Sim ls V b a w) (hb : Below w.heap.size w w') : Sim ls V b a w' :=
  ⟨h.de, h.sz, fun k => ⟨fun h1 h2 => hV k _ _ _ ((h.at_ k).1 h1 h2) hb, (h.at_ k).2⟩⟩
def guardsB (ops : Array Oper) (ls : List Tmp) : Bool := ops.all fun o => match o.guard with
  | none => true
  | some (g, _) => match (ops[g]?).bind (·.dst) with
    | some d => !ls.contains d
    | none => true
theorem wanted_sim {b a : Act} {w : World} (h : Sim ls V b a w) (hG : guardsB ops ls = true) {o : Oper} {i : Nat} (ho : ops[i]? = some o) : Region.wanted o (yielded ops a.tmps) = Region.wanted o (yielded ops b.tmps) := by
  unfold Region.wanted
  cases hg : o.guard with
  | none => rfl
  | some gw =>
    obtain ⟨g, want⟩ := gw
    have hi : i < ops.size := by
      rcases Nat.lt_or_ge i ops.size with h1 | h1
      · exact h1
      · rw [Array.getElem?_eq_none h1] at ho; cases ho
    have he : ops[i] = o := by rw [Array.getElem?_eq_getElem hi] at ho; injection ho
    have h1 := (Array.all_eq_true.1 hG) i hi
    rw [he, hg] at h1
    have hy : yielded ops a.tmps g = yielded ops b.tmps g := by
      unfold yielded
      cases ht : (ops[g]?).bind (·.dst) with
      | none => rfl
      | some t =>
        simp only [ht] at h1
        have h2 := (h.at_ t).2 (by simpa using h1)
        have h3 : a.tmps[t]? = b.tmps[t]? := by
          rcases Nat.lt_or_ge t b.tmps.size with h4 | h4
          · have h5 : t < a.tmps.size := by rw [h.sz]; exact h4
            simp only [Act.eval] at h2
            rw [Array.getElem?_eq_getElem h4, Array.getElem?_eq_getElem h5]
            simpa [h4, h5] using h2
          · rw [Array.getElem?_eq_none h4, Array.getElem?_eq_none (by rw [h.sz]; exact h4)]
        simp [h3]
    simp only [hy]
theorem loudStep (hV : ∀ k u w w', V k u w → Below w.heap.size w w' → V k u w') (hG : guardsB ops ls = true) {Q' : Exit → Act → World → Prop} {K : Act → Prop} {K' : Act → World → Prop} (ih : ∀ b a w, Below Z.heap.size Z w → Sim ls V b a w → K b → K' a w)
    {i : Nat} {b a : Act} {w : World} (hC : Below Z.heap.size Z w) (hs : Sim ls V b a w) (h1 : lOp P ops Z ls V i K b) : wpOp P ops Q' i K' a w := by
  unfold lOp at h1
  unfold wpOp
  cases ho : ops[i]? with
  | none => simp only [ho] at h1 ⊢; exact ih _ _ _ hC hs h1
  | some o =>
    simp only [ho] at h1 ⊢
    rw [wanted_sim hs hG ho]
    split
    · rename_i hw
      simp only [hw, if_true] at h1
      obtain ⟨v, hq, hK⟩ := h1
      refine .inl ?_
      have h2 := hq a w hC (fun k _ => hs.at_ k)
      unfold Oper.wp
      generalize (execOp a.eval o).run P w = r at *
      cases r with
      | ok n w' =>
        cases n <;> simp only [LoudUpon] at h2 <;> simp only [Oper.upon]
        case value u =>
          rcases h2 with ⟨rfl, rfl, h3⟩ | ⟨hb, h3⟩
          · exact ih _ _ _ hC (hs.put _ _ _ fun d hd => ⟨fun h4 => (by rw [h3 d hd] at h4; cases h4), fun _ => rfl⟩) hK
          · exact ih _ _ _ (hC.trans (hb.mono hC.size)) ((hs.next hV hb).put _ _ _ fun d hd => ⟨fun _ _ => (h3 d hd).2, fun h4 => (by rw [(h3 d hd).1] at h4; cases h4)⟩) hK
        case enter f args =>
          obtain ⟨rfl, hc⟩ := h2
          refine hc.mono ?_
          rintro e w'' ⟨u, rfl, hb, hd⟩
          exact ih _ _ _ (hC.trans (hb.mono hC.size)) ((hs.next hV hb).put _ _ _ fun d h3 => ⟨fun h4 _ => (hd d h3).1 h4, (hd d h3).2⟩) hK
      | halt x w' => simp only [LoudUpon] at h2
    · rename_i hw
      simp only [hw] at h1
      exact ih _ _ _ hC (hs.put _ _ _ fun d hd => ⟨fun _ h4 => (by cases h4), fun _ => rfl⟩) h1
theorem wpAny_of_loud (hV : ∀ k u w w', V k u w → Below w.heap.size w w' → V k u w') (hG : guardsB ops ls = true) {Q : Act → Prop} {Q' : Exit → Act → World → Prop} (hQ : ∀ b a w, Below Z.heap.size Z w → Sim ls V b a w → Q b → Q' .normal a w) :
    ∀ (fuel : Nat) (listed : Array Bool) (b a : Act) (w : World), Below Z.heap.size Z w → Sim ls V b a w → wpAnyL P md ops Z ls V Q fuel listed b → wpAny P md ops Q' fuel listed a w
  | 0, _, _, _, _, hC, hs, h => ⟨h.1, hQ _ _ _ hC hs h.2⟩
  | fuel + 1, listed, b, a, w, hC, hs, h => ⟨fun h0 => hQ _ _ _ hC hs (h.1 h0), fun i hi => loudStep hV hG (fun b a w => wpAny_of_loud hV hG hQ fuel _ b a w) hC hs (h.2 i hi)⟩
def YieldsL (P : Program) (ops : Array Oper) (Z : World) (ls : List Tmp) (V : Tmp → Value → World → Prop) (o : Oper) (v : Value) (b : Act) : Prop :=
  (Region.wanted o (yielded ops b.tmps) = true ∧ LQ P ops Z ls V o b v) ∨ (Region.wanted o (yielded ops b.tmps) = false ∧ v = undef)
theorem YieldsL.lOp {i : Nat} {o : Oper} {v : Value} {b : Act} (hi : ops[i]? = some o) (hy : YieldsL P ops Z ls V o v b) {K : Act → Prop} (h : K (b.put o.dst v)) : lOp P ops Z ls V i K b := by
  unfold Go.Proofs.YtaikejlcpnelpaaDoor.lOp
  simp only [hi]
  rcases hy with ⟨hw, hv⟩ | ⟨hw, rfl⟩
  · simp only [hw, if_true]; exact ⟨v, hv, h⟩
  · simp only [hw, Bool.false_eq_true, if_false]; exact h
theorem yieldsL_of {i : Nat} {o : Oper} {b : Act} {K : Act → Prop} (hi : ops[i]? = some o) (h : lOp P ops Z ls V i K b) : ∃ v, YieldsL P ops Z ls V o v b ∧ K (b.put o.dst v) := by
  unfold lOp at h
  simp only [hi] at h
  by_cases hw : Region.wanted o (yielded ops b.tmps) = true
  · simp only [hw, if_true] at h
    obtain ⟨v, h1, h2⟩ := h
    exact ⟨v, .inl ⟨hw, h1⟩, h2⟩
  · simp only [hw] at h
    exact ⟨undef, .inr ⟨by simpa using hw, rfl⟩, h⟩
theorem lOp_put {j : Nat} {oi oj : Oper} {v : Value} (hj : ops[j]? = some oj) (hap : oi.apart ops oj = true) {K : Act → Prop} {b : Act}
    (hy : YieldsL P ops Z ls V oi v b) (h : lOp P ops Z ls V j K (b.put oi.dst v)) : lOp P ops Z ls V j (fun b' => YieldsL P ops Z ls V oi v b' ∧ K (b'.put oi.dst v)) b := by
  obtain ⟨h1, h2, h3⟩ := Oper.apart_spec hap
  have keep : ∀ (b : Act), YieldsL P ops Z ls V oi v b → ∀ u, YieldsL P ops Z ls V oi v (b.put oj.dst u) := fun b hy u => by
    unfold YieldsL at *
    rw [wanted_put oi b oj.dst u h3]
    exact hy.imp (fun h => ⟨h.1, h.2.put h3⟩) id
  unfold lOp at *
  simp only [hj] at *
  rw [wanted_put oj b oi.dst v h1] at h
  split
  · rename_i hw
    simp only [hw, if_true] at h
    obtain ⟨u, hu, hn⟩ := h
    exact ⟨u, hu.unput h1, keep b hy u, by rw [← Act.put_comm b v u h2]; exact hn⟩
  · rename_i hw
    simp only [hw] at h
    exact ⟨keep b hy _, by rw [← Act.put_comm b v undef h2]; exact h⟩
theorem wpAnyL_first {Q : Act → Prop} {i : Nat} {oi : Oper} {v : Value} (hi : ops[i]? = some oi) :
    ∀ (fuel : Nat) (listed : Array Bool) (b : Act),
      (∀ j oj, ops[j]? = some oj → j ≠ i → listed.getD j true = false → (∀ e ∈ oj.after, Region.binds md e = true → e.on ≠ i) → oi.apart ops oj = true) →
      i ∈ Region.ready md ops listed → YieldsL P ops Z ls V oi v b →
      wpAnyL P md ops Z ls V Q fuel (listed.setIfInBounds i true) (b.put oi.dst v) → wpAnyL P md ops Z ls V Q (fuel + 1) listed b := by
  intro fuel
  induction fuel with
  | zero =>
    intro listed b _ hr hy H
    refine ⟨fun h => (by rw [h] at hr; cases hr), fun j hj => ?_⟩
    by_cases hji : j = i
    · subst hji; exact hy.lOp hi H
    · have := ready_mono hj hji
      rw [H.1] at this
      cases this
  | succ fuel ih =>
    intro listed b hfree hr hy H
    refine ⟨fun h => (by rw [h] at hr; cases hr), fun j hj => ?_⟩
    by_cases hji : j = i
    · subst hji; exact hy.lOp hi H
    · have h1 := H.2 j (ready_mono hj hji)
      obtain ⟨hjun, oj, hoj, hall⟩ := mem_ready.1 hj
      have hnot : ∀ e ∈ oj.after, Region.binds md e = true → e.on ≠ i := fun e he hb heq => by
        have h1 := hall e he hb
        have h0 := (mem_ready.1 hr).1
        rw [heq] at h1
        rcases Nat.lt_or_ge i listed.size with h' | h'
        · simp [h'] at h0 h1; rw [h0] at h1; cases h1
        · simp [Array.getElem?_eq_none h'] at h1
      have h2 := lOp_put hoj (hfree j oj hoj hji hjun hnot) hy h1
      have hfree' : ∀ k ok, ops[k]? = some ok → k ≠ i → (listed.setIfInBounds j true).getD k true = false →
          (∀ e ∈ ok.after, Region.binds md e = true → e.on ≠ i) → oi.apart ops ok = true := fun k ok hk hki hun hno => by
        refine hfree k ok hk hki ?_ hno
        by_cases hjk : j = k
        · subst hjk; exact hjun
        · rw [getD_set_ne true hjk] at hun; exact hun
      refine lOp_mono (fun b' h3 => ih (listed.setIfInBounds j true) b' hfree' (ready_mono hr (Ne.symm hji)) h3.1 ?_) h2
      rw [Array.setIfInBounds_comm _ _ hji]
      exact h3.2
theorem wpAnyL_lex {Q : Act → Prop} : ∀ (l : List Oper) (k : Nat) (listed : Array Bool) (b : Act), (∀ j, l[j]? = ops[k + j]?) →
    Region.lexFrom md ops l.length k listed = true → wpLoud P ops Z ls V Q l b → wpAnyL P md ops Z ls V Q l.length listed b
  | [], _, _, _, _, hB, h => ⟨by simpa [Region.lexFrom] using hB, h⟩
  | o :: l, k, listed, b, hl, hB, h => by
    have h0 : ops[k]? = some o := by simpa using (hl 0).symm
    simp only [List.length_cons, Region.lexFrom, Bool.and_eq_true] at hB
    obtain ⟨⟨hr, hf⟩, hB'⟩ := hB
    have hst : lOp P ops Z ls V k (wpLoud P ops Z ls V Q l) b := by unfold lOp; simp only [h0]; exact h
    obtain ⟨v, hy, hK⟩ := yieldsL_of h0 hst
    exact wpAnyL_first h0 l.length listed b (Region.free_spec h0 hf) (by simpa using hr) hy
      (wpAnyL_lex l (k + 1) _ _ (fun j => by have := hl (j + 1); simpa [Nat.add_assoc, Nat.add_comm 1 j] using this) hB' hK)
def idleB (a : Act) (ls : List Tmp) : Bool := ls.all fun k => !isTok (a.eval (.tmp k))
theorem idle_sim {a : Act} {w : World} (hI : idleB a ls = true) : Sim ls V a a w := by
  refine ⟨rfl, rfl, fun k => ⟨fun h1 h2 => ?_, fun _ => rfl⟩⟩
  have h3 := List.all_eq_true.1 hI k (by simpa using h1)
  rw [h2] at h3
  cases h3
theorem wp_region_loud (Z : World) (ls : List Tmp) (V : Tmp → Value → World → Prop) {id : Nat} {Q : Exit → Act → World → Prop} {a : Act} {w : World} {l : List Oper} (hm : P.follows .mixedOrders = true) (hB : Region.lexB .any l.toArray = true) (hG : guardsB l.toArray ls = true) (hI : idleB a ls = true)
    (hV : ∀ k u w w', V k u w → Below w.heap.size w w' → V k u w') (hC : Below Z.heap.size Z w.drew)
    (h : wpLoud P l.toArray Z ls V (fun b => ∀ a' w', Below Z.heap.size Z w' → Sim ls V b a' w' → Q .normal a' w') l a) : (Code.region id l.toArray true).wp P Q a w := by
  simp only [Region.lexB, Bool.and_eq_true] at hB
  refine wp_region_any hm (wpAny_of_loud (Q := fun b => ∀ a' w', Below Z.heap.size Z w' → Sim ls V b a' w' → Q .normal a' w') hV hG (fun b a w h1 h2 h3 => h3 a w h1 h2) _ _ a a _ hC (idle_sim hI) ?_)
  · have := wpAnyL_lex (P := P) (Z := Z) (ls := ls) (V := V) (md := .any) l 0 (Array.replicate l.toArray.size false) a (by simp) (by simpa using hB.2) h
    simpa using this
/-! the head of a region so, its tail as it stands -/
def wpAnyLT (P : Program) (md : Region.Mode) (ops : Array Oper) (Z : World) (ls : List Tmp) (V : Tmp → Value → World → Prop) (n : Nat) (L : Array Bool → Act → Prop) : Nat → Array Bool → Act → Prop
  | 0, listed, b => L listed b
  | f + 1, listed, b => Region.ready md ops listed ≠ [] ∧ ∀ i ∈ Region.ready md ops listed, i < n ∧ lOp P ops Z ls V i (wpAnyLT P md ops Z ls V n L f (listed.setIfInBounds i true)) b
theorem wpAny_of_loudHead {n g : Nat} (hV : ∀ k u w w', V k u w → Below w.heap.size w w' → V k u w') (hG : guardsB ops ls = true) {L : Array Bool → Act → Prop} {Q' : Exit → Act → World → Prop} (hL : ∀ listed b a w, Below Z.heap.size Z w → Sim ls V b a w → L listed b → wpAny P md ops Q' g listed a w) :
    ∀ (f : Nat) (listed : Array Bool) (b a : Act) (w : World), Below Z.heap.size Z w → Sim ls V b a w → wpAnyLT P md ops Z ls V n L f listed b → wpAny P md ops Q' (f + g) listed a w
  | 0, listed, b, a, w, hC, hs, h => by rw [Nat.zero_add]; exact hL _ _ _ _ hC hs h
  | f + 1, listed, b, a, w, hC, hs, h => by
    rw [show f + 1 + g = (f + g) + 1 by omega]
    exact ⟨fun h0 => absurd h0 h.1, fun i hi => loudStep hV hG (fun b a w => wpAny_of_loudHead hV hG hL f _ b a w) hC hs (h.2 i hi).2⟩
theorem wpAnyLT_first {n i : Nat} {oi : Oper} {v : Value} {L : Array Bool → Act → Prop} (hi : ops[i]? = some oi)
    (hs : Region.sinkB md ops n = true) (hc : Region.chainB md ops n = true) (hn : n < ops.size) (hin : i < n)
    (hdone : ∀ listed b, L listed b → ∀ j ∈ Region.ready md ops listed, n ≤ j) :
    ∀ (f : Nat) (listed : Array Bool) (b : Act), HeadInv md ops n listed →
      (∀ j oj, ops[j]? = some oj → j ≠ i → listed.getD j true = false → (∀ e ∈ oj.after, Region.binds md e = true → e.on ≠ i) → oi.apart ops oj = true) →
      i ∈ Region.ready md ops listed → YieldsL P ops Z ls V oi v b →
      wpAnyLT P md ops Z ls V n L f (listed.setIfInBounds i true) (b.put oi.dst v) → wpAnyLT P md ops Z ls V n L (f + 1) listed b := by
  intro f
  induction f with
  | zero =>
    intro listed b inv _ hr hy H
    have hun := (mem_ready.1 hr).1
    refine ⟨fun h => (by rw [h] at hr; cases hr), fun j hj => ?_⟩
    have hjn : j < n := by
      rcases Nat.lt_or_ge j n with h | h
      · exact h
      · exact absurd hj (tail_waits hs hc hn inv _ i rfl hin hun j h)
    refine ⟨hjn, ?_⟩
    by_cases hji : j = i
    · subst hji; exact hy.lOp hi H
    · have := hdone _ _ H j (ready_mono hj hji)
      omega
  | succ f ih =>
    intro listed b inv hfree hr hy H
    have hun := (mem_ready.1 hr).1
    refine ⟨fun h => (by rw [h] at hr; cases hr), fun j hj => ?_⟩
    have hjn : j < n := by
      rcases Nat.lt_or_ge j n with h | h
      · exact h
      · exact absurd hj (tail_waits hs hc hn inv _ i rfl hin hun j h)
    refine ⟨hjn, ?_⟩
    by_cases hji : j = i
    · subst hji; exact hy.lOp hi H
    · have h1 := (H.2 j (ready_mono hj hji)).2
      obtain ⟨hjun, oj, hoj, hall⟩ := mem_ready.1 hj
      have hnot : ∀ e ∈ oj.after, Region.binds md e = true → e.on ≠ i := fun e he hb heq => by
        have h1 := hall e he hb
        rw [heq, getD_both hun] at h1
        cases h1
      have h2 := lOp_put hoj (hfree j oj hoj hji hjun hnot) hy h1
      have hfree' : ∀ k ok, ops[k]? = some ok → k ≠ i → (listed.setIfInBounds j true).getD k true = false →
          (∀ e ∈ ok.after, Region.binds md e = true → e.on ≠ i) → oi.apart ops ok = true := fun k ok hk hki hun hno => by
        refine hfree k ok hk hki ?_ hno
        by_cases hjk : j = k
        · subst hjk; exact hjun
        · rw [getD_set_ne true hjk] at hun; exact hun
      refine lOp_mono (fun b' h3 => ih (listed.setIfInBounds j true) b' (inv.set hj hjn) hfree' (ready_mono hr (Ne.symm hji)) h3.1 ?_) h2
      rw [Array.setIfInBounds_comm _ _ hji]
      exact h3.2
theorem wpAnyLT_lex {n g : Nat} {Lq : Act → Prop} (hs : Region.sinkB md ops n = true) (hc : Region.chainB md ops n = true) (hn : n < ops.size) :
    ∀ (l : List Oper) (k : Nat) (listed : Array Bool) (b : Act), (∀ j, j < l.length → l[j]? = ops[k + j]?) → k + l.length = n → HeadInv md ops n listed →
    Region.lexHead md ops g l.length k listed = true → wpLoud P ops Z ls V Lq l b →
    wpAnyLT P md ops Z ls V n (fun listed' b' => Region.seqB md ops g n listed' = true ∧ Lq b') l.length listed b
  | [], k, listed, b, _, hk, _, hB, h => by
    have : k = n := by simpa using hk
    subst this
    exact ⟨by simpa [Region.lexHead] using hB, h⟩
  | o :: l, k, listed, b, hl, hk, inv, hB, h => by
    have h0 : ops[k]? = some o := by simpa using (hl 0 (by simp)).symm
    simp only [List.length_cons, Region.lexHead, Bool.and_eq_true] at hB
    obtain ⟨⟨hr, hf⟩, hB'⟩ := hB
    have hkn : k < n := by simp only [List.length_cons] at hk; omega
    have hr' : k ∈ Region.ready md ops listed := by simpa using hr
    have hst : lOp P ops Z ls V k (wpLoud P ops Z ls V Lq l) b := by unfold lOp; simp only [h0]; exact h
    obtain ⟨v, hy, hK⟩ := yieldsL_of h0 hst
    exact wpAnyLT_first h0 hs hc hn hkn (fun listed' a' hL => seqB_ready hL.1) l.length listed b inv (Region.free_spec h0 hf) hr' hy
      (wpAnyLT_lex hs hc hn l (k + 1) _ _ (fun j hj => by have := hl (j + 1) (by simp; omega); simpa [Nat.add_assoc, Nat.add_comm 1 j] using this) (by simp only [List.length_cons] at hk; omega) (inv.set hr' hkn) hB' hK)
theorem wp_region_loudTail (n : Nat) (Z : World) (ls : List Tmp) (V : Tmp → Value → World → Prop) {id : Nat} {Q : Exit → Act → World → Prop} {a : Act} {w : World} {l : List Oper} (hm : P.follows .mixedOrders = true) (hB : Region.lexTailB .any l.toArray n = true) (hG : guardsB l.toArray ls = true) (hI : idleB a ls = true)
    (hV : ∀ k u w w', V k u w → Below w.heap.size w w' → V k u w') (hC : Below Z.heap.size Z w.drew)
    (h : wpLoud P l.toArray Z ls V (fun b => ∀ a' w', Below Z.heap.size Z w' → Sim ls V b a' w' → wpList P l.toArray Q (l.drop n) a' w') (l.take n) a) : (Code.region id l.toArray true).wp P Q a w := by
  simp only [Region.lexTailB, Bool.and_eq_true, decide_eq_true_eq] at hB
  obtain ⟨⟨⟨⟨hsel, hn⟩, hs⟩, hc⟩, hlex⟩ := hB
  have hn' : n < l.length := by simpa using hn
  have htl : (l.take n).length = n := by simp; omega
  have hdl : (l.drop n).length = l.toArray.size - n := by simp
  have inv0 : HeadInv .any l.toArray n (Array.replicate l.toArray.size false) :=
    ⟨by simp, fun j oj _ hl => (by rw [getD_replicate_false] at hl; cases hl), fun t _ ht => getD_in (by simpa using ht) (getD_replicate_false _ _)⟩
  have H := wpAnyLT_lex (P := P) (Z := Z) (ls := ls) (V := V) (md := .any) (g := l.toArray.size - n) hs hc hn (l.take n) 0 _ a (fun j hj => by
    have hj' : j < n := by rw [htl] at hj; exact hj
    simp [hj']) (by simpa using htl) inv0 (by rw [htl]; exact hlex) h
  refine wp_region_any hm ?_
  have := wpAny_of_loudHead (Q' := Q) (g := l.toArray.size - n) hV hG (fun listed b' a' w' hC' hS hL => by
    have := wpAny_of_seq (md := .any) (Q' := Q) (l.drop n) n listed a' w' (fun j => by simp [List.getElem?_drop]) (by rw [hdl]; exact hL.1) (hL.2 a' w' hC' hS)
    rwa [hdl] at this) _ _ a a w.drew hC (idle_sim hI) H
  rw [htl, show n + (l.toArray.size - n) = l.toArray.size by omega] at this
  exact this
/-- the frame with what the loud calls handed back -/
def fill (g : Tmp → Value) : List Tmp → Act → Act
  | [], b => b
  | k :: ks, b => fill g ks (b.put (some k) (g k))
theorem fill_size (g : Tmp → Value) : ∀ (ls : List Tmp) (b : Act), (fill g ls b).tmps.size = b.tmps.size ∧ (fill g ls b).defers = b.defers
  | [], b => ⟨rfl, rfl⟩
  | k :: ks, b => by
    have := fill_size g ks (b.put (some k) (g k))
    exact ⟨this.1.trans (by simp [Act.put]), this.2⟩
theorem fill_eval (g : Tmp → Value) (k : Tmp) : ∀ (ls : List Tmp) (b : Act), k < b.tmps.size → (fill g ls b).eval (.tmp k) = if ls.contains k then g k else b.eval (.tmp k)
  | [], b, _ => rfl
  | j :: ks, b, hk => by
    have h1 := fill_eval g k ks (b.put (some j) (g j)) (by simpa [Act.put] using hk)
    show (fill g ks (b.put (some j) (g j))).eval (.tmp k) = _
    rw [h1, eval_put_at]
    by_cases h2 : k = j
    · subst h2
      rw [if_pos (c := k = k ∧ _) ⟨rfl, hk⟩]
      simp
    · rw [if_neg (c := k = j ∧ _) (fun h => h2 h.1)]
      have h3 : (j :: ks).contains k = ks.contains k := by
        rw [List.contains_cons]
        have h4 : (k == j) = false := by simpa using h2
        rw [h4]; rfl
      rw [h3]
theorem Sim.filled {b a : Act} {w : World} (h : Sim ls V b a w) : a = fill (fun k => a.eval (.tmp k)) ls b := by
  obtain ⟨s1, s2⟩ := fill_size (fun k => a.eval (.tmp k)) ls b
  have ht : a.tmps = (fill (fun k => a.eval (.tmp k)) ls b).tmps := by
    apply Array.ext
    · rw [s1, h.sz]
    · intro k h1 h2
      have hk : k < b.tmps.size := by rw [← h.sz]; exact h1
      have h3 := fill_eval (fun k => a.eval (.tmp k)) k ls b hk
      have e1 : a.tmps[k] = a.eval (.tmp k) := by simp [Act.eval, h1]
      have e2 : ∀ (c : Act) (h : k < c.tmps.size), c.tmps[k] = c.eval (.tmp k) := fun c h => by simp [Act.eval, h]
      rw [e1, e2, h3]
      cases hc : ls.contains k
      · exact (h.at_ k).2 hc
      · rfl
  have hd : a.defers = (fill (fun k => a.eval (.tmp k)) ls b).defers := by rw [s2, h.de]
  generalize fill (fun k => a.eval (.tmp k)) ls b = c at *
  cases a
  cases c
  simp only at ht hd
  rw [ht, hd]
theorem wpLoud_end {Φ : Act → World → Prop} {b : Act} (need : List Tmp) (hn : (need.all fun k => ls.contains k && isTok (b.eval (.tmp k))) = true)
    (h : ∀ (g : Tmp → Value) (x : Ext Z), (∀ k ∈ need, V k (g k) x.wd) → Φ (fill g ls b) x.wd) : wpLoud P ops Z ls V (fun b => ∀ a' w', Below Z.heap.size Z w' → Sim ls V b a' w' → Φ a' w') [] b := by
  intro a' w' hb hs
  rw [hs.filled]
  refine h _ ⟨w', hb⟩ fun k hk => ?_
  have h1 := List.all_eq_true.1 hn k hk
  rw [Bool.and_eq_true] at h1
  exact (hs.at_ k).1 h1.1 (isTok_eq h1.2)
/-! steps -/
variable {Q : Act → Prop} {b : Act} {o : Oper} {rest : List Oper}
theorem wpLoud_skip (hw : Region.wanted o (yielded ops b.tmps) = false) (b' : Act) (hb : b.put o.dst undef = b') (h : wpLoud P ops Z ls V Q rest b') : wpLoud P ops Z ls V Q (o :: rest) b := by
  subst hb
  unfold wpLoud
  rw [if_neg (by rw [hw]; exact Bool.false_ne_true)]
  exact h
def plainOp : Op → Bool
  | .move _ | .assign _ | .pick _ _ _ | .load _ _ | .binOp _ _ _ _ _ | .unOp _ _ _ | .convert _ _ _ | .fieldAddr _ _ _ | .indexAddr _ _ _ | .extract _ _ | .slice _ _ _ _ _ | .index _ _ _ | .field _ _ _ => true
  | _ => false
def quietB (ops : Array Oper) (ls : List Tmp) (o : Oper) : Bool := (o.looksAt ops).all (fun k => !ls.contains k) && (match o.dst with | some d => !ls.contains d | none => true)
theorem notEnter {α : Type} (s : Sem α) (g : α → Value) (w w' : World) (f : FuncId) (args : Array Value) : ((do pure (.value (g (← s))) : Sem Next)).run P w ≠ .ok (.enter f args) w' := by
  rw [Sem.run_bind]
  cases s.run P w with
  | ok u w1 => simp [Result.andThen]
  | halt x w1 => simp [Result.andThen]
theorem plain_run {ρ : Operand → Value} (hp : plainOp o.op = true) (w w' : World) (f : FuncId) (args : Array Value) : (execOp ρ o).run P w ≠ .ok (.enter f args) w' := by
  obtain ⟨dst, op, type, pos, after, guard⟩ := o
  cases op <;> simp only [plainOp] at hp <;> (try cases hp)
  case move x => simp [execOp]
  case assign x => simp [execOp]
  case pick c x y => exact notEnter (asBool (ρ c)) (fun t => if t then ρ x else ρ y) w w' f args
  all_goals exact notEnter _ (fun t => t) w w' f args
theorem simAt_eval {b a : Act} {w : World} (hq : quietB ops ls o = true) (hs : ∀ k ∈ o.looksAt ops, SimAt ls V b a w k) : ∀ x ∈ o.op.operands, a.eval x = b.eval x := fun x hx => by
  unfold quietB at hq
  rw [Bool.and_eq_true] at hq
  cases x with
  | tmp k =>
    have hk : k ∈ o.looksAt ops := List.mem_append_left _ (List.mem_filterMap.2 ⟨.tmp k, by simpa using hx, rfl⟩)
    have h1 := List.all_eq_true.1 hq.1 k hk
    exact (hs k hk).2 (by simpa using h1)
  | const v => rfl
  | global v => rfl
  | func v => rfl
theorem quietB_dst (hq : quietB ops ls o = true) : ∀ d, o.dst = some d → ls.contains d = false := fun d hd => by
  unfold quietB at hq
  rw [Bool.and_eq_true, hd] at hq
  simpa using hq.2
theorem wpLoud_val (hw : Region.wanted o (yielded ops b.tmps) = true) (hq : quietB ops ls o = true) (hsel : ∀ cs t, o.op ≠ .select cs t) (v : Value) (hr : ∀ x : Ext Z, (execOp b.eval o).run P x.wd = .ok (.value v) x.wd)
    (b' : Act) (hb : b.put o.dst v = b') (h : wpLoud P ops Z ls V Q rest b') : wpLoud P ops Z ls V Q (o :: rest) b := by
  subst hb
  unfold wpLoud
  rw [if_pos hw]
  refine ⟨v, fun a w hC hs => ?_, h⟩
  rw [execOp_congr o hsel (simAt_eval hq hs), show (execOp b.eval o).run P w = .ok (.value v) w from hr ⟨w, hC⟩]
  exact .inl ⟨rfl, rfl, quietB_dst hq⟩
theorem wpLoud_plain (hw : Region.wanted o (yielded ops b.tmps) = true) (hq : quietB ops ls o = true) (hp : plainOp o.op = true)
    (h : ∀ K : Act → Prop, (∀ b, wpLoud P ops Z ls V Q rest b → K b) → o.quiet P b (fun w => ∃ x : Ext Z, w = x.wd) K) : wpLoud P ops Z ls V Q (o :: rest) b := by
  unfold wpLoud
  rw [if_pos hw]
  obtain ⟨v, h1, h2⟩ := h _ (fun _ h => h)
  refine ⟨v, fun a w hC hs => ?_, h2⟩
  have hsel : ∀ cs t, o.op ≠ .select cs t := fun cs t he => by rw [he] at hp; cases hp
  have h3 := h1 w ⟨⟨w, hC⟩, rfl⟩
  rw [execOp_congr o hsel (simAt_eval hq hs)]
  unfold Oper.quietAt at h3
  have hne := plain_run (P := P) (ρ := b.eval) hp w
  have hnk : ∀ w', (execOp b.eval o).run P w ≠ .ok .skip w' := by
    obtain ⟨dst, op, type, pos, after, guard⟩ := o
    have key : ∀ {α : Type} (s : Sem α) (g : α → Value) (w' : World), ((do pure (.value (g (← s))) : Sem Next)).run P w ≠ .ok .skip w' := by
      intro α s g w'
      rw [Sem.run_bind]
      cases s.run P w with
      | ok u w1 => simp [Result.andThen]
      | halt x w1 => simp [Result.andThen]
    intro w'
    cases op <;> simp only [plainOp] at hp <;> (try cases hp)
    case move x => simp [execOp]
    case assign x => simp [execOp]
    case pick c x y => exact key (asBool (b.eval c)) (fun t => if t then b.eval x else b.eval y) w'
    all_goals exact key _ (fun t => t) w'
  generalize (execOp b.eval o).run P w = r at *
  cases r with
  | ok n w' =>
    cases n <;> simp only [Oper.quietUpon] at h3
    case value u => exact .inl ⟨h3.1, h3.2, quietB_dst hq⟩
    case skip => exact absurd rfl (hnk w')
    case enter f args => exact absurd rfl (hne w' f args)
  | halt x w' => simp only [Oper.quietUpon] at h3
theorem wpLoud_load (hw : Region.wanted o (yielded ops b.tmps) = true) (hq : quietB ops ls o = true) (ty : TypeId) (x : Operand) (ho : o.op = .load ty x) (n off : Nat) (hx : b.eval x = .pointer (some ⟨n, off, none⟩)) (cs : List Value) (d : TypeDesc)
    (hc : ∀ y : Ext Z, y.wd.rangeAt n off cs) (hu : P.underlying ty = some d) (hd : d.isRow = true) (hi : (P.info? ty).map (·.size) = some cs.length)
    (b' : Act) (hb : b.put o.dst (.agg cs.toArray) = b') (h : wpLoud P ops Z ls V Q rest b') : wpLoud P ops Z ls V Q (o :: rest) b :=
  wpLoud_val hw hq (fun cs t he => by rw [ho] at he; cases he) _ (fun y => by
    unfold execOp
    simp only [ho, hx, Instr.loadAt, Instr.sureAddr, Sem.run_bind, Sem.run_pure, Result.andThen_ok, run_loadVar_mid y.wd n off ty cs d (hc y) hu hd hi]) b' hb h
/-- an operation that makes memory -/
theorem wpLoud_make (hw : Region.wanted o (yielded ops b.tmps) = true) (hsel : ∀ cs t, o.op ≠ .select cs t) (hq : ((o.looksAt ops).all fun k => !ls.contains k) = true) (d : Tmp) (hd : o.dst = some d) (hl : ls.contains d = true)
    (hr : ∀ x : Ext Z, ∃ u w', (execOp b.eval o).run P x.wd = .ok (.value u) w' ∧ Below x.wd.heap.size x.wd w' ∧ V d u w')
    (b' : Act) (hb : b.put o.dst tok = b') (h : wpLoud P ops Z ls V Q rest b') : wpLoud P ops Z ls V Q (o :: rest) b := by
  subst hb
  unfold wpLoud
  rw [if_pos hw]
  refine ⟨tok, fun a w hC hs => ?_, h⟩
  have he : ∀ x ∈ o.op.operands, a.eval x = b.eval x := fun x hx => by
    cases x with
    | tmp k =>
      have hk : k ∈ o.looksAt ops := List.mem_append_left _ (List.mem_filterMap.2 ⟨.tmp k, by simpa using hx, rfl⟩)
      exact (hs k hk).2 (by simpa using List.all_eq_true.1 hq k hk)
    | const v => rfl
    | global v => rfl
    | func v => rfl
  obtain ⟨u, w', h1, h2, h3⟩ := hr ⟨w, hC⟩
  rw [execOp_congr o hsel he, show (execOp b.eval o).run P w = .ok (.value u) w' from h1]
  exact .inr ⟨h2, fun d' hd' => by rw [hd] at hd'; injection hd' with hd'; subst hd'; exact ⟨hl, h3⟩⟩
/-- what a loud call handed back, moved -/
theorem wpLoud_move (hw : Region.wanted o (yielded ops b.tmps) = true) (k d : Tmp) (ho : o.op = .assign (.tmp k) ∨ o.op = .move (.tmp k)) (hd : o.dst = some d) (hk : ls.contains k = true) (hl : ls.contains d = true) (ht : isTok (b.eval (.tmp k)) = true) (hV : ∀ u w, V k u w → V d u w)
    (b' : Act) (hb : b.put o.dst tok = b') (h : wpLoud P ops Z ls V Q rest b') : wpLoud P ops Z ls V Q (o :: rest) b := by
  subst hb
  unfold wpLoud
  rw [if_pos hw]
  refine ⟨tok, fun a w hC hs => ?_, h⟩
  have hrun : (execOp a.eval o).run P w = .ok (.value (a.eval (.tmp k))) w := by
    rcases ho with ho | ho <;> · unfold execOp; simp only [ho, Sem.run_pure]
  have hm : k ∈ o.looksAt ops := by
    unfold Oper.looksAt
    rcases ho with ho | ho <;> · rw [ho]; simp [Op.operands]
  have hv := (hs k hm).1 hk (isTok_eq ht)
  rw [hrun]
  exact .inr ⟨Below.refl _ _, fun d' hd' => by rw [hd] at hd'; injection hd' with hd'; subst hd'; exact ⟨hl, hV _ _ hv⟩⟩
theorem wpLoud_loadB (hw : Region.wanted o (yielded ops b.tmps) = true) (hq : quietB ops ls o = true) (ty : TypeId) (x : Operand) (ho : o.op = .load ty x) (n off : Nat) (hx : b.eval x = .pointer (some ⟨n, off, none⟩)) (cs : Array Value) (d : TypeDesc)
    (hc : ∀ y : Ext Z, y.wd.rangeAt n off cs.toList) (hu : P.underlying ty = some d) (hd : d.isRow = true) (hi : (P.info? ty).map (·.size) = some cs.toList.length)
    (b' : Act) (hb : b.put o.dst (.agg cs) = b') (h : wpLoud P ops Z ls V Q rest b') : wpLoud P ops Z ls V Q (o :: rest) b :=
  wpLoud_load hw hq ty x ho n off hx cs.toList d hc hu hd hi b' (by rw [Array.toArray_toList]; exact hb) h
def over (ls : List Tmp) (b : Act) (g : Tmp → Value) : Operand → Value
  | .tmp k => if ls.contains k then g k else b.eval (.tmp k)
  | x => b.eval x
/-- a call, by its contract -/
theorem wpLoud_call (d : Tmp) (hd : o.dst = some d) (need : List Tmp) (v : Value) (f : FuncId) (args : (Tmp → Value) → Array Value) (hw : Region.wanted o (yielded ops b.tmps) = true) (hsel : ∀ cs t, o.op ≠ .select cs t)
    (hn : (need.all fun k => ls.contains k && ((o.looksAt ops).contains k && isTok (b.eval (.tmp k)))) = true)
    (hrun : ∀ (g : Tmp → Value) w, (execOp (over ls b g) o).run P w = .ok (.enter f (args g)) w)
    (hc : ∀ (g : Tmp → Value) (x : Ext Z), (∀ k ∈ need, V k (g k) x.wd) → Calls P f (args g) x.wd fun e w'' => ∃ u, e = .returned u ∧ Below x.wd.heap.size x.wd w'' ∧ (if ls.contains d then V d u w'' else u = v))
    (b' : Act) (hb : b.put o.dst v = b') (h : wpLoud P ops Z ls V Q rest b') : wpLoud P ops Z ls V Q (o :: rest) b := by
  subst hb
  unfold wpLoud
  rw [if_pos hw]
  refine ⟨v, fun a w hC hs => ?_, h⟩
  have he : ∀ x ∈ o.op.operands, a.eval x = over ls b (fun k => a.eval (.tmp k)) x := fun x hx => by
    cases x with
    | tmp k =>
      have hk : k ∈ o.looksAt ops := List.mem_append_left _ (List.mem_filterMap.2 ⟨.tmp k, by simpa using hx, rfl⟩)
      show _ = if ls.contains k then _ else _
      cases hcn : ls.contains k
      · exact (hs k hk).2 hcn
      · rfl
    | const v => rfl
    | global v => rfl
    | func v => rfl
  rw [execOp_congr o hsel he, hrun]
  refine ⟨rfl, (hc _ ⟨w, hC⟩ fun k hk => ?_).mono ?_⟩
  · have h1 := List.all_eq_true.1 hn k hk
    simp only [Bool.and_eq_true] at h1
    exact (hs k (by simpa using h1.2.1)).1 h1.1 (isTok_eq h1.2.2)
  · rintro e w'' ⟨u, h1, h2, h3⟩
    refine ⟨u, h1, h2, fun d' hd' => ?_⟩
    rw [hd] at hd'
    injection hd' with hd'
    subst hd'
    exact ⟨fun h4 => by rwa [if_pos h4] at h3, fun h4 => by rwa [if_neg (by rw [h4]; exact Bool.false_ne_true)] at h3⟩
end
end Go.Proofs.YtaikejlcpnelpaaDoor
/- Common: laws for lists and regions. -/
namespace Go.Proofs.YtaikejlcpnelpaaDoor
set_option maxRecDepth 100000
open Go.RowKit
set_option linter.unusedVariables false
set_option linter.unusedSimpArgs false
theorem cell_ext {Z : World} {a : Addr} {v : Value} (h : Z.cell? a = some v) : ∀ x : Ext Z, x.wd.cell? a = some v := fun x => x.cell h
theorem run_built (w : World) (t : TypeId) (parts : List (Nat × Value)) (cells : Array Value) (hf : Tryd.prog.built t parts = some cells) {o : Oper} {a : Act} (ps : Array (Nat × Operand)) (ho : o.op = .build t ps) (hp : (ps.map fun (i, x) => (i, a.eval x)).toList = parts) :
    (execOp a.eval o).run Tryd.prog w = .ok (.value (.agg cells)) w := by
  subst hp
  unfold execOp
  simp only [ho, Sem.run_bind, run_build w t _ cells hf, Result.andThen_ok]
  rfl
section
variable {P : Program} {ops : Array Oper} {Q : Exit → Act → World → Prop}
theorem wpList_valG {ops : Array Oper} {rest : List Oper} {o : Oper} {a : Act} {w : World} {Q : Exit → Act → World → Prop} (hw : Region.wanted o (yielded ops a.tmps) = true) (v : Value) (hr : (execOp a.eval o).run P w = .ok (.value v) w)
    (h : wpList P ops Q rest (a.put o.dst v) w) : wpList P ops Q (o :: rest) a w :=
  wpList_step fun K hK => by
    rw [if_pos hw]
    unfold Oper.wp
    rw [hr]
    exact hK _ _ h
theorem wpList_loadG {ops : Array Oper} {rest : List Oper} {o : Oper} {a : Act} {w : World} {Q : Exit → Act → World → Prop} (hw : Region.wanted o (yielded ops a.tmps) = true) (ty : TypeId) (x : Operand) (ho : o.op = .load ty x) (n off : Nat) (hx : a.eval x = .pointer (some ⟨n, off, none⟩)) (cs : List Value) (d : TypeDesc)
    (hc : w.rangeAt n off cs) (hu : P.underlying ty = some d) (hd : d.isRow = true) (hi : (P.info? ty).map (·.size) = some cs.length)
    (h : wpList P ops Q rest (a.put o.dst (.agg cs.toArray)) w) : wpList P ops Q (o :: rest) a w :=
  wpList_valG hw _ (by
    unfold execOp
    simp only [ho, hx, Instr.loadAt, Instr.sureAddr, Sem.run_bind, Sem.run_pure, Result.andThen_ok, run_loadVar_mid w n off ty cs d hc hu hd hi]) h
theorem wpList_valM {rest : List Oper} {o : Oper} {a : Act} {w : World} (hw : Region.wanted o (yielded ops a.tmps) = true) (v : Value) (w' : World) (hr : (execOp a.eval o).run P w = .ok (.value v) w')
    (h : wpList P ops Q rest (a.put o.dst v) w') : wpList P ops Q (o :: rest) a w :=
  wpList_step fun K hK => by
    rw [if_pos hw]
    unfold Oper.wp
    rw [hr]
    exact hK _ _ h
end
end Go.Proofs.YtaikejlcpnelpaaDoor
/- Contracts: comparisons of numbers and texts. -/
namespace Go.Proofs.YtaikejlcpnelpaaDoor
set_option maxRecDepth 100000
open Go.RowKit
set_option linter.unusedVariables false
set_option linter.unusedSimpArgs false
def cmpI (x y : Int) : Int := if x < y then -1 else if y < x then 1 else 0
def cmpS (a b : ByteArray) : Int := if ltS a b then -1 else if ltS b a then 1 else 0
theorem nan_i64 (x : Int) (w : World) : Calls Tryd.prog 102 #[.int .i64 x] w fun e w' => e = .returned (.bool false) ∧ w = w' := by
  have t0 : (x != x) = false := by simp
  go_enter Tryd.func102, Tryd.ntmps102
  go_wp2
  go_ret
  exact ⟨rfl, rfl⟩
theorem cmp_i64 (x y : Int) (w : World) : Calls Tryd.prog 93 #[.int .i64 x, .int .i64 y] w fun e w' => e = .returned (.int .i64 (cmpI x y)) ∧ w = w' := by
  unfold cmpI
  by_cases h1 : x < y
  · rw [if_pos h1]
    have d1 : decide (x < y) = true := decide_eq_true h1
    clear h1
    go_enter Tryd.func93, Tryd.ntmps93
    go_wp2_with (go_at_call 102; (refine (nan_i64 _ _).mono ?_); rintro e w' ⟨rfl, rfl⟩)
    go_ret
    exact ⟨rfl, rfl⟩
  · rw [if_neg h1]
    have d1 : decide (x < y) = false := decide_eq_false h1
    by_cases h2 : y < x
    · rw [if_pos h2]
      have d2 : decide (y < x) = true := decide_eq_true h2
      clear h1 h2
      go_enter Tryd.func93, Tryd.ntmps93
      go_wp2_with (go_at_call 102; (refine (nan_i64 _ _).mono ?_); rintro e w' ⟨rfl, rfl⟩)
      go_ret
      exact ⟨rfl, rfl⟩
    · rw [if_neg h2]
      have d2 : decide (y < x) = false := decide_eq_false h2
      clear h1 h2
      go_enter Tryd.func93, Tryd.ntmps93
      go_wp2_with (go_at_call 102; (refine (nan_i64 _ _).mono ?_); rintro e w' ⟨rfl, rfl⟩)
      go_ret
      exact ⟨rfl, rfl⟩
theorem nan_u64 (x : Int) (w : World) : Calls Tryd.prog 106 #[.int .u64 x] w fun e w' => e = .returned (.bool false) ∧ w = w' := by
  have t0 : (x != x) = false := by simp
  go_enter Tryd.func106, Tryd.ntmps106
  go_wp2
  go_ret
  exact ⟨rfl, rfl⟩
theorem cmp_u64 (x y : Int) (w : World) : Calls Tryd.prog 103 #[.int .u64 x, .int .u64 y] w fun e w' => e = .returned (.int .i64 (cmpI x y)) ∧ w = w' := by
  unfold cmpI
  by_cases h1 : x < y
  · rw [if_pos h1]
    have d1 : decide (x < y) = true := decide_eq_true h1
    clear h1
    go_enter Tryd.func103, Tryd.ntmps103
    go_wp2_with (go_at_call 106; (refine (nan_u64 _ _).mono ?_); rintro e w' ⟨rfl, rfl⟩)
    go_ret
    exact ⟨rfl, rfl⟩
  · rw [if_neg h1]
    have d1 : decide (x < y) = false := decide_eq_false h1
    by_cases h2 : y < x
    · rw [if_pos h2]
      have d2 : decide (y < x) = true := decide_eq_true h2
      clear h1 h2
      go_enter Tryd.func103, Tryd.ntmps103
      go_wp2_with (go_at_call 106; (refine (nan_u64 _ _).mono ?_); rintro e w' ⟨rfl, rfl⟩)
      go_ret
      exact ⟨rfl, rfl⟩
    · rw [if_neg h2]
      have d2 : decide (y < x) = false := decide_eq_false h2
      clear h1 h2
      go_enter Tryd.func103, Tryd.ntmps103
      go_wp2_with (go_at_call 106; (refine (nan_u64 _ _).mono ?_); rintro e w' ⟨rfl, rfl⟩)
      go_ret
      exact ⟨rfl, rfl⟩
theorem nan_u16 (x : Int) (w : World) : Calls Tryd.prog 107 #[.int .u16 x] w fun e w' => e = .returned (.bool false) ∧ w = w' := by
  have t0 : (x != x) = false := by simp
  go_enter Tryd.func107, Tryd.ntmps107
  go_wp2
  go_ret
  exact ⟨rfl, rfl⟩
theorem cmp_u16 (x y : Int) (w : World) : Calls Tryd.prog 104 #[.int .u16 x, .int .u16 y] w fun e w' => e = .returned (.int .i64 (cmpI x y)) ∧ w = w' := by
  unfold cmpI
  by_cases h1 : x < y
  · rw [if_pos h1]
    have d1 : decide (x < y) = true := decide_eq_true h1
    clear h1
    go_enter Tryd.func104, Tryd.ntmps104
    go_wp2_with (go_at_call 107; (refine (nan_u16 _ _).mono ?_); rintro e w' ⟨rfl, rfl⟩)
    go_ret
    exact ⟨rfl, rfl⟩
  · rw [if_neg h1]
    have d1 : decide (x < y) = false := decide_eq_false h1
    by_cases h2 : y < x
    · rw [if_pos h2]
      have d2 : decide (y < x) = true := decide_eq_true h2
      clear h1 h2
      go_enter Tryd.func104, Tryd.ntmps104
      go_wp2_with (go_at_call 107; (refine (nan_u16 _ _).mono ?_); rintro e w' ⟨rfl, rfl⟩)
      go_ret
      exact ⟨rfl, rfl⟩
    · rw [if_neg h2]
      have d2 : decide (y < x) = false := decide_eq_false h2
      clear h1 h2
      go_enter Tryd.func104, Tryd.ntmps104
      go_wp2_with (go_at_call 107; (refine (nan_u16 _ _).mono ?_); rintro e w' ⟨rfl, rfl⟩)
      go_ret
      exact ⟨rfl, rfl⟩
theorem nan_s (a : ByteArray) (w : World) : Calls Tryd.prog 101 #[.string a] w fun e w' => e = .returned (.bool false) ∧ w = w' := by
  go_enter Tryd.func101, Tryd.ntmps101
  go_wp2
  go_ret
  exact ⟨by simp, rfl⟩
theorem cmp_s (a b : ByteArray) (w : World) : Calls Tryd.prog 92 #[.string a, .string b] w fun e w' => e = .returned (.int .i64 (cmpS a b)) ∧ w = w' := by
  unfold cmpS ltS
  by_cases h1 : Op.bytesLess a.toList b.toList = true
  · rw [if_pos h1]
    go_enter Tryd.func92, Tryd.ntmps92
    go_wp2_with (go_at_call 101; (refine (nan_s _ _).mono ?_); rintro e w' ⟨rfl, rfl⟩)
    go_ret
    exact ⟨rfl, rfl⟩
  · rw [if_neg h1]
    have h1' : Op.bytesLess a.toList b.toList = false := by simpa using h1
    clear h1
    by_cases h2 : Op.bytesLess b.toList a.toList = true
    · rw [if_pos h2]
      have h3 : (a.toList == b.toList) = false := by
        rw [beq_eq_false_iff_ne]
        intro he
        rw [he, bless_irr] at h2
        cases h2
      go_enter Tryd.func92, Tryd.ntmps92
      go_wp2_with (go_at_call 101; (refine (nan_s _ _).mono ?_); rintro e w' ⟨rfl, rfl⟩)
      go_ret
      exact ⟨rfl, rfl⟩
    · rw [if_neg h2]
      have h3 : (a.toList == b.toList) = true := by
        rw [beq_iff_eq]
        by_cases he : a.toList = b.toList
        · exact he
        · exact absurd (bless_tri _ _ he h1') h2
      clear h2
      go_enter Tryd.func92, Tryd.ntmps92
      go_wp2_with (go_at_call 101; (refine (nan_s _ _).mono ?_); rintro e w' ⟨rfl, rfl⟩)
      go_ret
      exact ⟨rfl, rfl⟩
end Go.Proofs.YtaikejlcpnelpaaDoor
/- Contracts: which piece stands ahead. -/
namespace Go.Proofs.YtaikejlcpnelpaaDoor
set_option maxRecDepth 100000
open Go.RowKit
set_option linter.unusedVariables false
set_option linter.unusedSimpArgs false
theorem heap2P (w : World) (a b : Obj) : ((((w.alloc a).alloc b))).heap[w.heap.size + 1]? = some b := by
  have h := heap_alloc_new (w.alloc a) b
  have e : (w.alloc a).heap.size = w.heap.size + 1 := by simp
  rw [e] at h
  exact h
def orL : List Int → Int
  | [] => 0
  | x :: l => if x = 0 then orL l else x
def ints (l : List Int) : List Value := l.map fun x => .int .i64 x
def IntsAt (w : World) (g : Nat) (l : List Int) : Prop := Blk w g 3 (ints l).toArray
theorem IntsAt.at_ {w : World} {g : Nat} {l : List Int} (h : IntsAt w g l) (i : Nat) (hi : i < l.length) : w.cell? ⟨g, i, none⟩ = some (.int .i64 (l.getD i 0)) := by
  refine (Blk.cell h i).trans ?_
  simp [ints, List.getD_eq_getElem?_getD, hi]
theorem or_c (g c : Nat) (l : List Int) (w : World) (h : IntsAt w g l) (hl : l.length ≤ 100) :
    Calls Tryd.prog 91 #[.slice (some ⟨g, 0, none⟩) l.length c] w fun e w' => e = .returned (.int .i64 (orL l)) ∧ w = w' := by
  have HH := Lib.hid h
  clear h
  go_enter Tryd.func91, Tryd.ntmps91
  go_wp2
  go_loop [8] (fun i => ∃ k : Nat, k ≤ l.length ∧ i = .int .i64 k ∧ orL l = orL (l.drop k)) (fun i => l.length - (intOf i).toNat)
  case atStart => exact ⟨0, Nat.zero_le _, rfl, rfl⟩
  case round =>
    obtain ⟨k, hk, rfl, hd⟩ := hrel
    have HD := Lib.hid hd
    clear hd
    by_cases hlt : k < l.length
    · have e0 := HH.out.at_ k hlt
      have HDK := Lib.hid (show l.drop k = l.getD k 0 :: l.drop (k + 1) by rw [List.drop_eq_getElem_cons hlt]; simp [List.getD_eq_getElem?_getD, hlt])
      generalize l.getD k 0 = x at *
      have p1 : (k : Int) < (l.length : Int) := by omega
      by_cases hx : x = 0
      · subst hx
        go_wp2
        go_round
        case rel => exact ⟨k + 1, by omega, by go_num, by rw [HD.out, HDK.out]; rfl⟩
        case measure => simp [intOf]; omega
      · have t0 : (x != 0) = true := by rw [bne_iff_ne]; exact hx
        have HX := Lib.hid hx
        clear hx
        go_wp2
        go_ret
        exact ⟨by rw [HD.out, HDK.out, orL, if_neg HX.out]; rfl, rfl⟩
    · obtain rfl : k = l.length := by omega
      go_wp2
      go_ret
      exact ⟨by rw [HD.out, List.drop_length]; rfl, rfl⟩
theorem intInfo : (Tryd.prog.info? 3).map (fun i => (i.zero, i.size, i.bytes)) = some (some (.int .i64 0), 1, 8) := by kernel_rfl
theorem run_ints (w : World) (l : List Int) {o : Oper} {ρ : Operand → Value} (xs : Array (Nat × Operand)) (ho : o.op = .buildSlice 150 l.length xs)
    (hx : (xs.map fun (p : Nat × Operand) => (p.1, ρ p.2)).toList = (((ints l).zipIdx 0).map fun x => (x.2, x.1))) (hlen : l.length ≤ 1000) (hpos : 0 < l.length) :
    (execOp ρ o).run Tryd.prog w = .ok (.value (.slice (some ⟨w.heap.size, 0, none⟩) l.length l.length)) (w.alloc (.cells (ints l).toArray 3)) := by
  obtain ⟨i0, hi, hz0, hz1, hz2⟩ := info_parts intInfo
  have h1 := run_buildSlice (P := Tryd.prog) w 150 3 l.length (xs.map fun (p : Nat × Operand) => (p.1, ρ p.2)) (ints l).toArray i0 _ Tryd.underlying150 hi hz0 (by rw [hz1]; omega) (by rw [hz1]; omega) (by
    rw [hz1]
    refine (congrArg _ hx).trans ?_
    exact (Great.fill_flat (ints l) _ (fun v hv => by
      obtain ⟨p, _, rfl⟩ := List.mem_map.1 hv
      rfl) (by simp [ints])))
  unfold execOp
  simp only [ho, Sem.run_bind, h1, Result.andThen_ok]
  rfl
def IntsV (l : List Int) (u : Value) (W : World) : Prop := ∃ g, u = .slice (some ⟨g, 0, none⟩) l.length l.length ∧ IntsAt W g l
theorem IntsV.next {l : List Int} {u : Value} {W W' : World} (h : IntsV l u W) (hb : Below W.heap.size W W') : IntsV l u W' := by
  obtain ⟨g, e, h⟩ := h
  exact ⟨g, e, Blk.below h hb (Blk.lt h)⟩
theorem IntsV.or_ {l : List Int} {u : Value} {W : World} (h : IntsV l u W) (hl : l.length ≤ 100) : Calls Tryd.prog 91 #[u] W fun e w' => e = .returned (.int .i64 (orL l)) ∧ W = w' := by
  obtain ⟨g, rfl, h⟩ := h
  exact or_c g _ l W h hl
def idV (n d : Nat) : Array Value := #[.int .u64 (n : Int), .int .u16 (d : Int)]
def cmpD (n d n2 d2 : Nat) : Int := orL [cmpI n n2, cmpI d d2]
set_option maxRecDepth 100000 in
set_option maxHeartbeats 4000000 in
theorem ids_c (n d n2 d2 : Nat) (w : World) : Calls Tryd.prog 94 #[.agg (idV n d), .agg (idV n2 d2)] w fun e w' => e = .returned (.int .i64 (cmpD n d n2 d2)) ∧ Below w.heap.size w w' := by
  go_enter Tryd.func94, Tryd.ntmps94
  go_upto_region 1 with (first
    | (refine Go.Great.wpList_boxTo rfl 55 (.tmp 0) rfl (some 2) rfl w.heap.size rfl (idV n d) rfl ?_)
    | (refine Go.Great.wpList_boxTo rfl 55 (.tmp 1) rfl (some 3) rfl (w.heap.size + 1) (by simp) (idV n2 d2) rfl ?_))
  obtain ⟨Z, hZ⟩ : ∃ Z, Z = (w.alloc (Obj.cells (idV n d) 55)).alloc (Obj.cells (idV n2 d2) 55) := ⟨_, rfl⟩
  have H1 := show Blk Z w.heap.size 55 (idV n d) by rw [hZ]; exact (Blk.new w _ _).alloc _
  have H2 := show Blk Z (w.heap.size + 1) 55 (idV n2 d2) by rw [hZ]; exact heap2P w _ _
  have HB := Lib.hid (show Below w.heap.size w Z by rw [hZ]; exact ((Below.refl _ _).alloc (Nat.le_refl _) _).alloc (by simp) _)
  rw [← hZ]
  clear hZ
  have c0 := cell_ext (show Z.cell? ⟨w.heap.size, 0, none⟩ = some (.int .u64 (n : Int)) from (H1.cell 0).trans rfl)
  have c1 := cell_ext (show Z.cell? ⟨w.heap.size, 1, none⟩ = some (.int .u16 (d : Int)) from (H1.cell 1).trans rfl)
  have c2 := cell_ext (show Z.cell? ⟨w.heap.size + 1, 0, none⟩ = some (.int .u64 (n2 : Int)) from (H2.cell 0).trans rfl)
  have c3 := cell_ext (show Z.cell? ⟨w.heap.size + 1, 1, none⟩ = some (.int .u16 (d2 : Int)) from (H2.cell 1).trans rfl)
  clear H1 H2
  refine wp_region_loud Z [15] (fun _ u W => IntsV [cmpI n n2, cmpI d d2] u W) (by kernel_rfl) (by kernel_rfl) (by kernel_rfl) (by kernel_rfl) (fun _ _ _ _ h hb => h.next hb) (Below.refl _ _).drew ?_
  repeat (first
    | (refine wpLoud_call 9 rfl [] (.int .i64 (cmpI n n2)) 103 (fun g => #[.int .u64 (n : Int), .int .u64 (n2 : Int)]) rfl (fun _ _ h => by cases h) rfl (fun g w => by kernel_rfl) (fun g z hg => by
        refine (cmp_u64 _ _ z.wd).mono ?_
        rintro e w' ⟨rfl, rfl⟩
        exact ⟨_, rfl, Below.refl _ _, rfl⟩) _ (by simp only [Act.put, List.setIfInBounds_toArray, List.set_cons_succ, List.set_cons_zero]; rfl) ?_)
    | (refine wpLoud_call 14 rfl [] (.int .i64 (cmpI d d2)) 104 (fun g => #[.int .u16 (d : Int), .int .u16 (d2 : Int)]) rfl (fun _ _ h => by cases h) rfl (fun g w => by kernel_rfl) (fun g z hg => by
        refine (cmp_u16 _ _ z.wd).mono ?_
        rintro e w' ⟨rfl, rfl⟩
        exact ⟨_, rfl, Below.refl _ _, rfl⟩) _ (by simp only [Act.put, List.setIfInBounds_toArray, List.set_cons_succ, List.set_cons_zero]; rfl) ?_)
    | (refine wpLoud_make rfl (fun _ _ h => by cases h) rfl 15 rfl rfl (fun y => ⟨_, _, run_ints y.wd [cmpI n n2, cmpI d d2] #[(0, .tmp 9), (1, .tmp 14)] rfl (by kernel_rfl) (by simp) (by simp), (Below.refl _ _).alloc (Nat.le_refl _) _, ⟨_, rfl, Blk.new _ _ _⟩⟩) _ (by simp only [Act.put, List.setIfInBounds_toArray, List.set_cons_succ, List.set_cons_zero]; rfl) ?_)
    | (refine wpLoud_call 16 rfl [15] (.int .i64 (cmpD n d n2 d2)) 91 (fun g => #[g 15]) rfl (fun _ _ h => by cases h) rfl (fun g w => by kernel_rfl) (fun g z hg => by
        refine ((hg 15 (by simp)).or_ (by simp)).mono ?_
        rintro e w' ⟨rfl, rfl⟩
        exact ⟨_, rfl, Below.refl _ _, rfl⟩) _ (by simp only [Act.put, List.setIfInBounds_toArray, List.set_cons_succ, List.set_cons_zero]; rfl) ?_)
    | (refine wpLoud_plain rfl rfl rfl ?_; intro K hK; go_big_quiet_op; go_big_quiet_on))
  refine wpLoud_end [] (by rfl) ?_
  intro g z hg
  have HBZ := Lib.hid (HB.out.trans (z.bel.mono HB.out.size))
  generalize z.wd = Y2 at *
  simp only [fill, Act.put, List.setIfInBounds_toArray, List.set_cons_succ, List.set_cons_zero]
  go_wp2_with fail
  go_ret
  exact ⟨rfl, HBZ.out⟩
def pcL (p : Pc) : List Value := [.string p.s, .int .i64 p.t, .int .i64 p.v, .int .u64 (p.n : Int), .int .u16 (p.d : Int)]
def pcV (p : Pc) : Array Value := (pcL p).toArray
def cmpP (a b : Pc) : Int := orL [cmpS a.s b.s, cmpI a.t b.t, cmpD a.n a.d b.n b.d]
def lessP (a b : Pc) : Bool := decide (cmpP a b < 0)
theorem idInfo : (Tryd.prog.info? 55).map (·.size) = some 2 := by kernel_rfl
theorem rangeAt_id {w : World} {g : Nat} {p : Pc} (h : Blk w g 57 (pcV p)) : w.rangeAt g 3 (idV p.n p.d).toList := fun i u hu => by
  refine (h.cell (3 + i)).trans ?_
  rw [← hu]
  match i with
  | 0 => rfl
  | 1 => rfl
  | i + 2 =>
    rw [show 3 + (i + 2) = i + 5 by omega]
    rfl
set_option maxRecDepth 100000 in
set_option maxHeartbeats 4000000 in
theorem compare_c (p q : Pc) (w : World) : Calls Tryd.prog 76 #[.agg (pcV p), .agg (pcV q)] w fun e w' => e = .returned (.int .i64 (cmpP p q)) ∧ Below w.heap.size w w' := by
  go_enter Tryd.func76, Tryd.ntmps76
  go_upto_region 1 with (first
    | (refine Go.Great.wpList_boxTo rfl 57 (.tmp 0) rfl (some 2) rfl w.heap.size rfl (pcV p) rfl ?_)
    | (refine Go.Great.wpList_boxTo rfl 57 (.tmp 1) rfl (some 3) rfl (w.heap.size + 1) (by simp) (pcV q) rfl ?_))
  obtain ⟨Z, hZ⟩ : ∃ Z, Z = (w.alloc (Obj.cells (pcV p) 57)).alloc (Obj.cells (pcV q) 57) := ⟨_, rfl⟩
  have h1 := show Blk Z w.heap.size 57 (pcV p) by rw [hZ]; exact (Blk.new w _ _).alloc _
  have h2 := show Blk Z (w.heap.size + 1) 57 (pcV q) by rw [hZ]; exact heap2P w _ _
  have HB := Lib.hid (show Below w.heap.size w Z by rw [hZ]; exact ((Below.refl _ _).alloc (Nat.le_refl _) _).alloc (by simp) _)
  rw [← hZ]
  clear hZ
  have c0 := cell_ext (show Z.cell? ⟨w.heap.size, 0, none⟩ = some (.string p.s) from (h1.cell 0).trans rfl)
  have c1 := cell_ext (show Z.cell? ⟨w.heap.size, 1, none⟩ = some (.int .i64 p.t) from (h1.cell 1).trans rfl)
  have c2 := cell_ext (show Z.cell? ⟨w.heap.size + 1, 0, none⟩ = some (.string q.s) from (h2.cell 0).trans rfl)
  have c3 := cell_ext (show Z.cell? ⟨w.heap.size + 1, 1, none⟩ = some (.int .i64 q.t) from (h2.cell 1).trans rfl)
  have H1 := Lib.hid h1
  have H2 := Lib.hid h2
  have HII := Lib.hid idInfo
  clear h1 h2
  refine wp_region_loud Z [20] (fun _ u W => IntsV [cmpS p.s q.s, cmpI p.t q.t, cmpD p.n p.d q.n q.d] u W) (by kernel_rfl) (by kernel_rfl) (by kernel_rfl) (by kernel_rfl) (fun _ _ _ _ h hb => h.next hb) (Below.refl _ _).drew ?_
  repeat (first
    | (refine wpLoud_loadB rfl rfl 55 (.tmp 15) rfl w.heap.size 3 rfl (idV p.n p.d) _ (fun z => rangeAt_id (H1.out.below z.bel H1.out.lt)) Tryd.underlying55 rfl HII.out _ (by simp only [Act.put, List.setIfInBounds_toArray, List.set_cons_succ, List.set_cons_zero]; rfl) ?_)
    | (refine wpLoud_loadB rfl rfl 55 (.tmp 17) rfl (w.heap.size + 1) 3 rfl (idV q.n q.d) _ (fun z => rangeAt_id (H2.out.below z.bel H2.out.lt)) Tryd.underlying55 rfl HII.out _ (by simp only [Act.put, List.setIfInBounds_toArray, List.set_cons_succ, List.set_cons_zero]; rfl) ?_)
    | (refine wpLoud_call 9 rfl [] (.int .i64 (cmpS p.s q.s)) 92 (fun g => #[.string p.s, .string q.s]) rfl (fun _ _ h => by cases h) rfl (fun g w => by kernel_rfl) (fun g z hg => by
        refine (cmp_s _ _ z.wd).mono ?_
        rintro e w' ⟨rfl, rfl⟩
        exact ⟨_, rfl, Below.refl _ _, rfl⟩) _ (by simp only [Act.put, List.setIfInBounds_toArray, List.set_cons_succ, List.set_cons_zero]; rfl) ?_)
    | (refine wpLoud_call 14 rfl [] (.int .i64 (cmpI p.t q.t)) 93 (fun g => #[.int .i64 p.t, .int .i64 q.t]) rfl (fun _ _ h => by cases h) rfl (fun g w => by kernel_rfl) (fun g z hg => by
        refine (cmp_i64 _ _ z.wd).mono ?_
        rintro e w' ⟨rfl, rfl⟩
        exact ⟨_, rfl, Below.refl _ _, rfl⟩) _ (by simp only [Act.put, List.setIfInBounds_toArray, List.set_cons_succ, List.set_cons_zero]; rfl) ?_)
    | (refine wpLoud_call 19 rfl [] (.int .i64 (cmpD p.n p.d q.n q.d)) 94 (fun g => #[.agg (idV p.n p.d), .agg (idV q.n q.d)]) rfl (fun _ _ h => by cases h) rfl (fun g w => by kernel_rfl) (fun g z hg => by
        refine (ids_c _ _ _ _ z.wd).mono ?_
        rintro e w' ⟨rfl, hb⟩
        exact ⟨_, rfl, hb, rfl⟩) _ (by simp only [Act.put, List.setIfInBounds_toArray, List.set_cons_succ, List.set_cons_zero]; rfl) ?_)
    | (refine wpLoud_make rfl (fun _ _ h => by cases h) rfl 20 rfl rfl (fun y => ⟨_, _, run_ints y.wd [cmpS p.s q.s, cmpI p.t q.t, cmpD p.n p.d q.n q.d] #[(0, .tmp 9), (1, .tmp 14), (2, .tmp 19)] rfl (by kernel_rfl) (by simp) (by simp), (Below.refl _ _).alloc (Nat.le_refl _) _, ⟨_, rfl, Blk.new _ _ _⟩⟩) _ (by simp only [Act.put, List.setIfInBounds_toArray, List.set_cons_succ, List.set_cons_zero]; rfl) ?_)
    | (refine wpLoud_call 21 rfl [20] (.int .i64 (cmpP p q)) 91 (fun g => #[g 20]) rfl (fun _ _ h => by cases h) rfl (fun g w => by kernel_rfl) (fun g z hg => by
        refine ((hg 20 (by simp)).or_ (by simp)).mono ?_
        rintro e w' ⟨rfl, rfl⟩
        exact ⟨_, rfl, Below.refl _ _, rfl⟩) _ (by simp only [Act.put, List.setIfInBounds_toArray, List.set_cons_succ, List.set_cons_zero]; rfl) ?_)
    | (refine wpLoud_plain rfl rfl rfl ?_; intro K hK; go_big_quiet_op; go_big_quiet_on))
  refine wpLoud_end [] (by rfl) ?_
  intro g z hg
  have HBZ := Lib.hid (HB.out.trans (z.bel.mono HB.out.size))
  generalize z.wd = Y2 at *
  simp only [fill, Act.put, List.setIfInBounds_toArray, List.set_cons_succ, List.set_cons_zero]
  go_wp2_with fail
  go_ret
  exact ⟨rfl, HBZ.out⟩
theorem pcInfo (p : Pc) : (Tryd.prog.info? 57).map (·.size) = some (pcV p).size := by
  show _ = some 5
  kernel_rfl
set_option maxRecDepth 100000 in
set_option maxHeartbeats 4000000 in
theorem less_c (p q : Pc) (w : World) : Calls Tryd.prog 66 #[.agg (pcV p), .agg (pcV q)] w fun e w' => e = .returned (.bool (lessP p q)) ∧ Below w.heap.size w w' := by
  have HLP := Lib.hid (show lessP p q = decide (cmpP p q < 0) from rfl)
  have HCC := Lib.hid (fun W => compare_c p q W)
  have HI1 := Lib.hid (pcInfo p)
  have HI2 := Lib.hid (pcInfo q)
  generalize cmpP p q = r at *
  generalize lessP p q = b at *
  go_enter Tryd.func66, Tryd.ntmps66
  go_upto_region 1 with (first
    | (refine Go.Great.wpList_boxTo rfl 57 (.tmp 0) rfl (some 2) rfl w.heap.size rfl (pcV p) rfl ?_)
    | (refine Go.Great.wpList_boxTo rfl 57 (.tmp 1) rfl (some 3) rfl (w.heap.size + 1) (by simp) (pcV q) rfl ?_))
  obtain ⟨Z, hZ⟩ : ∃ Z, Z = (w.alloc (Obj.cells (pcV p) 57)).alloc (Obj.cells (pcV q) 57) := ⟨_, rfl⟩
  have H1 := Lib.hid (show Blk Z w.heap.size 57 (pcV p) by rw [hZ]; exact (Blk.new w _ _).alloc _)
  have H2 := Lib.hid (show Blk Z (w.heap.size + 1) 57 (pcV q) by rw [hZ]; exact heap2P w _ _)
  have HB := Lib.hid (show Below w.heap.size w Z by rw [hZ]; exact ((Below.refl _ _).alloc (Nat.le_refl _) _).alloc (by simp) _)
  rw [← hZ]
  clear hZ
  go_wp2_with (first
    | (refine wpList_load_row rfl 57 (.tmp 2) rfl w.heap.size rfl 57 (pcV p) (0, 0) _ H1.out Tryd.underlying57 rfl HI1.out ?_)
    | (refine wpList_load_row rfl 57 (.tmp 3) rfl (w.heap.size + 1) rfl 57 (pcV q) (0, 0) _ H2.out Tryd.underlying57 rfl HI2.out ?_)
    | (go_at_call 76; (refine (HCC.out Z).mono ?_); rintro e W1 ⟨rfl, hb⟩; have HB1 := Lib.hid (HB.out.trans (hb.mono HB.out.size)); clear hb))
  go_ret
  exact ⟨by rw [HLP.out]; rfl, HB1.out⟩
end Go.Proofs.YtaikejlcpnelpaaDoor
/- Rows of pieces that are read; contracts: whether a piece may be, whether there are too many. -/
namespace Go.Proofs.YtaikejlcpnelpaaDoor
set_option maxRecDepth 100000
open Go.RowKit
set_option linter.unusedVariables false
set_option linter.unusedSimpArgs false
/-- cells from an address on -/
def AtA (w : World) (a : Addr) (cs : List Value) : Prop := ∀ j v, cs[j]? = some v → w.cell? (a.add j) = some v
theorem AtA.drop {w : World} {a : Addr} {cs : List Value} (h : AtA w a cs) (k n : Nat) : AtA w (a.add k) ((cs.drop k).take n) := fun j v hv => by
  rw [Addr.add_add]
  have hj : j < n := by
    rcases Nat.lt_or_ge j n with h1 | h1
    · exact h1
    · rw [List.getElem?_eq_none (by rw [List.length_take]; omega)] at hv; cases hv
  rw [List.getElem?_take_of_lt hj, List.getElem?_drop] at hv
  exact h (k + j) v hv
theorem AtA.below {w w' : World} {a : Addr} {cs : List Value} {B : Nat} (h : AtA w a cs) (hb : Below B w w') (ha : a.block < B) : AtA w' a cs := fun j v hv =>
  (hb.cell (by rw [add_block]; exact ha)).trans (h j v hv)
section
variable {P : Program}
theorem run_loadVar_at (w : World) (a : Addr) (ty : TypeId) (cs : List Value) (d : TypeDesc) (hc : AtA w a cs)
    (hu : P.underlying ty = some d) (hd : d.isRow = true) (hi : (P.info? ty).map (·.size) = some cs.length) :
    (loadVar ty a).run P w = .ok (.agg cs.toArray) w := by
  have hl : (loadCells a cs.length).run P w = .ok cs.toArray w := run_loadCells_list (P := P) w a cs hc
  cases hq : P.info? ty with
  | none => simp [hq] at hi
  | some i =>
    have hs : i.size = cs.length := by simpa [hq] using hi
    have hagg : (isAgg ty).run P w = .ok true w := by
      unfold isAgg
      rw [Sem.run_bind, run_underlying hu w]
      cases d <;> simp_all
    simp [loadVar, Sem.run_bind, hagg, sizeOf, typeInfo, hq, hs, hl]
end
section
variable {P : Program}
theorem wpList_loadA {ops : Array Oper} {rest : List Oper} {op : Oper} {a : Act} {w : World} {Q : Exit → Act → World → Prop} (hw : Region.wanted op (yielded ops a.tmps) = true) (ty : TypeId) (x : Operand) (ho : op.op = .load ty x)
    (b : Addr) (hx : a.eval x = .pointer (some b)) (l : List Value) (d : TypeDesc) (hc : AtA w b l)
    (hu : P.underlying ty = some d) (hd : d.isRow = true) (hi : (P.info? ty).map (·.size) = some l.length)
    (h : wpList P ops Q rest (a.put op.dst (.agg l.toArray)) w) : wpList P ops Q (op :: rest) a w :=
  wpList_valG hw _ (by
    unfold execOp
    simp only [ho, hx, Instr.loadAt, Instr.sureAddr, Sem.run_bind, Sem.run_pure, Result.andThen_ok, run_loadVar_at w b ty l d hc hu hd hi]) h
end
def pcs (l : List Pc) : List Value := (l.map pcL).flatten
theorem pcs_nil : pcs [] = [] := rfl
theorem pcs_cons (p : Pc) (l : List Pc) : pcs (p :: l) = pcL p ++ pcs l := by simp [pcs]
theorem pcs_app (l m : List Pc) : pcs (l ++ m) = pcs l ++ pcs m := by simp [pcs]
theorem pcs_len (l : List Pc) : (pcs l).length = l.length * 5 := by
  induction l with
  | nil => rfl
  | cons p l ih => rw [pcs_cons, List.length_append, ih]; simp [pcL]; omega
theorem pcs_drop (l : List Pc) (n : Nat) : pcs (l.drop n) = (pcs l).drop (n * 5) := by
  induction l generalizing n with
  | nil => simp [pcs_nil]
  | cons p l ih =>
    cases n with
    | zero => simp
    | succ n =>
      rw [List.drop_succ_cons, ih, pcs_cons, show (n + 1) * 5 = (pcL p).length + n * 5 by simp [pcL]; omega, List.drop_length_add_append]
theorem pcs_take (l : List Pc) (n : Nat) : pcs (l.take n) = (pcs l).take (n * 5) := by
  induction l generalizing n with
  | nil => simp [pcs_nil]
  | cons p l ih =>
    cases n with
    | zero => simp [pcs_nil]
    | succ n =>
      rw [List.take_succ_cons, pcs_cons, pcs_cons, ih, show (n + 1) * 5 = (pcL p).length + n * 5 by simp [pcL]; omega, List.take_length_add_append]
theorem pcs_one (l : List Pc) (i : Nat) (h : i < l.length) : ((pcs l).drop (i * 5)).take 5 = pcL (l.getD i pc0) := by
  rw [← pcs_drop, List.drop_eq_getElem_cons h, pcs_cons]
  simp [pcL, List.getD_eq_getElem?_getD, h]
/-- pieces that lie in memory -/
def RdP (w : World) (B : Nat) (A : Option Addr) (l : List Pc) : Prop := Rd w B A (pcs l)
theorem RdP.open_ {w : World} {B : Nat} {A : Option Addr} {l : List Pc} (h : RdP w B A l) (hn : 0 < l.length) : ∃ ad, A = some ad ∧ ad.block < B ∧ AtA w ad (pcs l) := by
  obtain ⟨ad, rfl, hb, hc⟩ := (show Rd w B A (pcs l) from h) (by intro h0; have := congrArg List.length h0; rw [pcs_len] at this; simp at this; omega)
  exact ⟨ad, rfl, hb, hc⟩
theorem AtA.piece {w : World} {ad : Addr} {l : List Pc} (h : AtA w ad (pcs l)) (i : Nat) (hi : i < l.length) : AtA w (ad.add (i * 5)) (pcL (l.getD i pc0)) := by
  rw [← pcs_one l i hi]; exact h.drop (i * 5) 5
theorem AtA.ser {w : World} {a : Addr} {p : Pc} (h : AtA w a (pcL p)) : w.cell? a = some (.string p.s) := by
  have := h 0 _ rfl
  rwa [show a.add 0 = a by simp [Addr.add]] at this
theorem pcLn (p : Pc) : (Tryd.prog.info? 57).map (·.size) = some (pcL p).length := by
  show _ = some 5
  kernel_rfl
def greatB (l : List Pc) (m : Nat) : Bool := decide (m < l.length) || (l.take m).any fun p => decide (400 < p.s.size)
theorem greatB_no {l : List Pc} {m : Nat} (h : greatB l m = false) : l.length ≤ m ∧ ∀ p ∈ l, p.s.size ≤ 400 := by
  unfold greatB at h
  rw [Bool.or_eq_false_iff, decide_eq_false_iff_not, List.any_eq_false] at h
  refine ⟨by omega, fun p hp => ?_⟩
  have := h.2 p (by rw [List.take_of_length_le (by omega)]; exact hp)
  simpa using this
set_option maxRecDepth 100000 in
set_option maxHeartbeats 1000000 in
theorem great_c (B : Nat) (A : Option Addr) (c : Nat) (l : List Pc) (m : Nat) (w : World) (hr : RdP w B A l) (h1 : l.length ≤ 9223372036854775807) (hm : m ≤ 1000000) (hs : ∀ p ∈ l, p.s.size ≤ 9223372036854775807) :
    Calls Tryd.prog 8 #[.slice A l.length c, .int .i64 m] w fun e w' => e = .returned (.bool (greatB l m)) ∧ w = w' := by
  have HR := Lib.hid hr
  clear hr
  go_enter Tryd.func8, Tryd.ntmps8
  go_wp2
  go_loop [5] (fun i => ∃ k : Nat, k ≤ l.length ∧ k ≤ m ∧ i = .int .i64 k ∧ ((l.take k).any fun p => decide (400 < p.s.size)) = false) (fun i => l.length - (intOf i).toNat)
  case atStart => exact ⟨0, Nat.zero_le _, Nat.zero_le _, rfl, by simp⟩
  case round =>
    obtain ⟨k, hk, hkm, rfl, hd⟩ := hrel
    have HD := Lib.hid hd
    clear hd
    by_cases hlt : k < l.length ∧ k < m
    · obtain ⟨hlt, hltm⟩ := hlt
      obtain ⟨ad, rfl, _, hat⟩ := HR.out.open_ (by omega)
      have e0 := (hat.piece k hlt).ser
      have HS := Lib.hid (show l.take (k + 1) = l.take k ++ [l.getD k pc0] by rw [List.take_succ_eq_append_getElem hlt]; simp [List.getD_eq_getElem?_getD, hlt])
      have hz := hs (l.getD k pc0) (by simp [List.getD_eq_getElem?_getD, hlt])
      have HMEM := Lib.hid (show l.getD k pc0 ∈ l.take m by
        rw [List.mem_iff_getElem]
        exact ⟨k, by rw [List.length_take]; omega, by simp [List.getD_eq_getElem?_getD, hlt]⟩)
      clear hat
      generalize l.getD k pc0 = p at *
      have p1 : (k : Int) < (l.length : Int) := by omega
      have p2 : (k : Int) < (m : Int) := by omega
      by_cases hg : 400 < p.s.size
      · have HF := Lib.hid (show greatB l m = true by
          unfold greatB
          rw [Bool.or_eq_true, List.any_eq_true]
          exact .inr ⟨p, HMEM.out, decide_eq_true hg⟩)
        clear HMEM
        go_wp2
        go_ret
        exact ⟨by rw [HF.out]; rfl, rfl⟩
      · have HG := Lib.hid hg
        go_wp2
        go_round
        case rel => exact ⟨k + 1, by omega, by omega, by go_num, by rw [HS.out, List.any_append, HD.out, List.any_cons, decide_eq_false HG.out]; rfl⟩
        case measure => simp [intOf]; omega
    · have HF := Lib.hid (show greatB l m = decide (m < l.length) by
        unfold greatB
        by_cases hlm : m < l.length
        · rw [decide_eq_true hlm]; rfl
        · rw [decide_eq_false hlm, Bool.false_or]
          have e : l.take m = l.take k := by rw [List.take_of_length_le (by omega), List.take_of_length_le (by omega)]
          rw [e]; exact HD.out)
      by_cases hkl : k < l.length
      · have hk2 : k = m := by omega
        subst hk2
        have p1 : (k : Int) < (l.length : Int) := by omega
        have HT := Lib.hid (decide_eq_true (show k < l.length from hkl))
        clear hlt
        go_wp2
        go_ret
        exact ⟨by rw [HF.out]; first | rfl | (rw [HT.out]; rfl), rfl⟩
      · have hk2 : k = l.length := by omega
        subst hk2
        have HT := Lib.hid (decide_eq_false (show ¬ m < l.length by omega))
        clear hlt hkl
        go_wp2
        go_ret
        exact ⟨by rw [HF.out]; first | rfl | (rw [HT.out]; rfl), rfl⟩
end Go.Proofs.YtaikejlcpnelpaaDoor
/- Contracts: whether a piece may be; the document's room. -/
namespace Go.Proofs.YtaikejlcpnelpaaDoor
set_option maxRecDepth 100000
open Go.RowKit
set_option linter.unusedVariables false
set_option linter.unusedSimpArgs false
def pcE (p : Pc) : Int := if ckP p then 0 else 1
set_option maxRecDepth 100000 in
theorem pcheck_c (p : Pc) (w : World) (hz : p.s.size ≤ 9223372036854775807) : Calls Tryd.prog 65 #[.agg (pcV p)] w fun e w' => e = .returned (.int .i64 (pcE p)) ∧ Below w.heap.size w w' := by
  have HCK := Lib.hid (show ckP p = (decide (1 ≤ p.s.size) && decide (p.s.size ≤ 200)) from rfl)
  obtain ⟨r, hr⟩ : ∃ r, r = pcE p := ⟨_, rfl⟩
  rw [← hr]
  have h1 : Blk (w.alloc (Obj.cells (pcV p) 57)) w.heap.size 57 (pcV p) := Blk.new w _ _
  have HB := Lib.hid (show Below w.heap.size w (w.alloc (Obj.cells (pcV p) 57)) from (Below.refl _ _).alloc (Nat.le_refl _) _)
  have c0 : (w.alloc (Obj.cells (pcV p) 57)).cell? ⟨w.heap.size, 0, none⟩ = some (.string p.s) := (h1.cell 0).trans rfl
  clear h1
  rcases (show p.s.size = 0 ∨ (1 ≤ p.s.size ∧ p.s.size ≤ 200) ∨ 200 < p.s.size by omega) with hc | ⟨hc1, hc2⟩ | hc
  · have HBB := Lib.hid (show r = 1 by rw [hr]; show (if ckP p then (0 : Int) else 1) = _; rw [HCK.out, hc]; rfl)
    have HH := Lib.hid hc
    have t0 : ((p.s.size : Int) == 0) = true := by rw [hc]; rfl
    have t1 : decide ((1 : Int) ≤ (p.s.size : Int)) = false := by rw [hc]; rfl
    clear hc hz hr
    go_enter Tryd.func65, Tryd.ntmps65
    go_upto_region 1 with (refine Go.Great.wpList_boxTo rfl 57 (.tmp 0) rfl (some 1) rfl w.heap.size rfl (pcV p) rfl ?_)
    generalize w.alloc (Obj.cells (pcV p) 57) = Z at *
    go_wp2_with fail
    go_ret
    exact ⟨by rw [HBB.out]; rfl, HB.out⟩
  · have HBB := Lib.hid (show r = 0 by rw [hr]; show (if ckP p then (0 : Int) else 1) = _; rw [HCK.out, decide_eq_true hc1, decide_eq_true hc2]; rfl)
    have t0 : ((p.s.size : Int) == 0) = false := by rw [beq_eq_false_iff_ne]; omega
    have t1 : decide ((1 : Int) ≤ (p.s.size : Int)) = true := decide_eq_true (by omega)
    have t2 : decide ((200 : Int) < (p.s.size : Int)) = false := decide_eq_false (by omega)
    have t3 : decide ((p.s.size : Int) ≤ 200) = true := decide_eq_true (by omega)
    clear hc1 hc2 hz hr
    go_enter Tryd.func65, Tryd.ntmps65
    go_upto_region 1 with (refine Go.Great.wpList_boxTo rfl 57 (.tmp 0) rfl (some 1) rfl w.heap.size rfl (pcV p) rfl ?_)
    generalize w.alloc (Obj.cells (pcV p) 57) = Z at *
    go_wp2_with fail
    go_ret
    exact ⟨by rw [HBB.out]; rfl, HB.out⟩
  · have HBB := Lib.hid (show r = 1 by rw [hr]; show (if ckP p then (0 : Int) else 1) = _; rw [HCK.out, decide_eq_false (show ¬ p.s.size ≤ 200 by omega), Bool.and_false]; try rfl)
    have t0 : ((p.s.size : Int) == 0) = false := by rw [beq_eq_false_iff_ne]; omega
    have t1 : decide ((1 : Int) ≤ (p.s.size : Int)) = true := decide_eq_true (by omega)
    have t2 : decide ((200 : Int) < (p.s.size : Int)) = true := decide_eq_true (by omega)
    have t3 : decide ((p.s.size : Int) ≤ 200) = false := decide_eq_false (by omega)
    clear hc hz hr
    go_enter Tryd.func65, Tryd.ntmps65
    go_upto_region 1 with (refine Go.Great.wpList_boxTo rfl 57 (.tmp 0) rfl (some 1) rfl w.heap.size rfl (pcV p) rfl ?_)
    generalize w.alloc (Obj.cells (pcV p) 57) = Z at *
    go_wp2_with fail
    go_ret
    exact ⟨by rw [HBB.out]; rfl, HB.out⟩
set_option maxRecDepth 100000 in
theorem rpcheck_c (p : Pc) (w : World) (hz : p.s.size ≤ 9223372036854775807) : Calls Tryd.prog 33 #[.agg (pcV p)] w fun e w' => e = .returned (.bool (ckP p)) ∧ Below w.heap.size w w' := by
  have HCK := Lib.hid (show ckP p = (decide (1 ≤ p.s.size) && decide (p.s.size ≤ 200)) from rfl)
  obtain ⟨r, hr⟩ : ∃ r, r = ckP p := ⟨_, rfl⟩
  rw [← hr]
  have h1 : Blk (w.alloc (Obj.cells (pcV p) 57)) w.heap.size 57 (pcV p) := Blk.new w _ _
  have HB := Lib.hid (show Below w.heap.size w (w.alloc (Obj.cells (pcV p) 57)) from (Below.refl _ _).alloc (Nat.le_refl _) _)
  have c0 : (w.alloc (Obj.cells (pcV p) 57)).cell? ⟨w.heap.size, 0, none⟩ = some (.string p.s) := (h1.cell 0).trans rfl
  clear h1
  rcases (show p.s.size = 0 ∨ (1 ≤ p.s.size ∧ p.s.size ≤ 200) ∨ 200 < p.s.size by omega) with hc | ⟨hc1, hc2⟩ | hc
  · have HBB := Lib.hid (show r = false by rw [hr]; show (ckP p) = _; rw [HCK.out, hc]; rfl)
    have HH := Lib.hid hc
    have t0 : ((p.s.size : Int) == 0) = true := by rw [hc]; rfl
    have t1 : decide ((1 : Int) ≤ (p.s.size : Int)) = false := by rw [hc]; rfl
    clear hc hz hr
    go_enter Tryd.func33, Tryd.ntmps33
    go_upto_region 1 with (refine Go.Great.wpList_boxTo rfl 57 (.tmp 0) rfl (some 1) rfl w.heap.size rfl (pcV p) rfl ?_)
    generalize w.alloc (Obj.cells (pcV p) 57) = Z at *
    go_wp2_with fail
    go_ret
    exact ⟨by rw [HBB.out]; rfl, HB.out⟩
  · have HBB := Lib.hid (show r = true by rw [hr]; show (ckP p) = _; rw [HCK.out, decide_eq_true hc1, decide_eq_true hc2]; rfl)
    have t0 : ((p.s.size : Int) == 0) = false := by rw [beq_eq_false_iff_ne]; omega
    have t1 : decide ((1 : Int) ≤ (p.s.size : Int)) = true := decide_eq_true (by omega)
    have t2 : decide ((200 : Int) < (p.s.size : Int)) = false := decide_eq_false (by omega)
    have t3 : decide ((p.s.size : Int) ≤ 200) = true := decide_eq_true (by omega)
    clear hc1 hc2 hz hr
    go_enter Tryd.func33, Tryd.ntmps33
    go_upto_region 1 with (refine Go.Great.wpList_boxTo rfl 57 (.tmp 0) rfl (some 1) rfl w.heap.size rfl (pcV p) rfl ?_)
    generalize w.alloc (Obj.cells (pcV p) 57) = Z at *
    go_wp2_with fail
    go_ret
    exact ⟨by rw [HBB.out]; rfl, HB.out⟩
  · have HBB := Lib.hid (show r = false by rw [hr]; show (ckP p) = _; rw [HCK.out, decide_eq_false (show ¬ p.s.size ≤ 200 by omega), Bool.and_false]; try rfl)
    have t0 : ((p.s.size : Int) == 0) = false := by rw [beq_eq_false_iff_ne]; omega
    have t1 : decide ((1 : Int) ≤ (p.s.size : Int)) = true := decide_eq_true (by omega)
    have t2 : decide ((200 : Int) < (p.s.size : Int)) = true := decide_eq_true (by omega)
    have t3 : decide ((p.s.size : Int) ≤ 200) = false := decide_eq_false (by omega)
    clear hc hz hr
    go_enter Tryd.func33, Tryd.ntmps33
    go_upto_region 1 with (refine Go.Great.wpList_boxTo rfl 57 (.tmp 0) rfl (some 1) rfl w.heap.size rfl (pcV p) rfl ?_)
    generalize w.alloc (Obj.cells (pcV p) 57) = Z at *
    go_wp2_with fail
    go_ret
    exact ⟨by rw [HBB.out]; rfl, HB.out⟩
theorem ser_ne (p q : Pc) : (p.s.toList != q.s.toList) = true ↔ p.s ≠ q.s := by
  rw [bne_iff_ne]
  exact ⟨fun h e => h (by rw [e]), fun h e => h (toList_inj e)⟩
set_option maxRecDepth 100000 in
set_option maxHeartbeats 2000000 in
theorem rroom_c (B : Nat) (A : Option Addr) (c : Nat) (l : List Pc) (w : World) (hr : RdP w B A l) (h1 : l.length ≤ 1000000) (hs : ∀ p ∈ l, p.s.size ≤ 1000000) :
    Calls Tryd.prog 32 #[.slice A l.length c] w fun e w' => e = .returned (.int .i64 (roomL l : Nat)) ∧ ∃ n, w' = w.drewN n := by
  have HR := Lib.hid hr
  have HSZ := Lib.hid (show ∀ k, (l.getD k pc0).s.size ≤ 1000000 from fun k => by
    rcases Nat.lt_or_ge k l.length with h | h
    · exact hs _ (by simp [List.getD_eq_getElem?_getD, h])
    · rw [List.getD_eq_getElem?_getD, List.getElem?_eq_none h]; decide)
  have hbd : ∀ k, k ≤ l.length → roomTo l k ≤ 4 + k * 1000100 := by
    intro k
    induction k with
    | zero => intro _; rw [roomTo_zero]; omega
    | succ k ih =>
      intro hk
      have h2 := ih (by omega)
      have h3 := HSZ.out k
      rw [roomTo_succ l k hk]
      split <;> omega
  have HBD := Lib.hid hbd
  clear hr hs hbd
  go_enter Tryd.func32, Tryd.ntmps32
  go_wp2
  go_loopw [3, 4] (fun n i wr => ∃ k q : Nat, k ≤ l.length ∧ i = .int .i64 k ∧ n = .int .i64 (roomTo l k : Nat) ∧ wr = w.drewN q) (fun _ i _ => l.length - (intOf i).toNat)
  case atStart => exact ⟨0, 0, Nat.zero_le _, rfl, by rw [roomTo_zero]; rfl, rfl⟩
  case round =>
    rename World => wr
    obtain ⟨k, q, hk, rfl, rfl, hw⟩ := hrel
    have HW := Lib.hid hw
    clear hw
    by_cases hlt : k < l.length
    · have p1 : (k : Int) < (l.length : Int) := by omega
      have hrr := HR.out
      obtain ⟨ad, rfl, _, hat⟩ := hrr.open_ (by omega)
      have e0 : wr.cell? (ad.add (k * 5)) = some (.string (l.getD k pc0).s) := by rw [HW.out]; exact (hat.piece k hlt).ser
      have HSU := Lib.hid (roomTo_succ l k hlt)
      have hz := HSZ.out k
      have hb0 := HBD.out k hk
      have hb1 := HBD.out (k + 1) hlt
      rcases Nat.eq_zero_or_pos k with h0 | h0
      · have HRT := Lib.hid (show roomTo l (k + 1) = roomTo l k + (6 + (l.getD k pc0).s.size) + 32 by rw [HSU.out, if_pos (.inl h0)])
        have t0 : ((k : Int) == 0) = true := by rw [h0]; rfl
        clear HSU hat h0
        generalize l.getD k pc0 = p at *
        generalize hr0 : roomTo l k = r0 at *
        clear hr0
        have f1 : IntKind.i64.wrap ((r0 : Int) + 6) = (r0 : Int) + 6 := IntWalk.i64_in _ (by omega)
        have f2 : IntKind.i64.wrap ((r0 : Int) + 6 + (p.s.size : Int)) = (r0 : Int) + 6 + (p.s.size : Int) := IntWalk.i64_in _ (by omega)
        have HE := Lib.hid (show (r0 : Int) + 6 + (p.s.size : Int) + 32 = ((roomTo l (k + 1) : Nat) : Int) by rw [HRT.out]; omega)
        clear HRT hb1
        go_upto_region 5 with fail
        go_quiet (fail)
        have HW2 := Lib.hid (show wr.drewN nq = w.drewN (q + nq) by rw [HW.out]; exact World.drewN_drewN ..)
        have e1 : (wr.drewN nq).cell? (ad.add (k * 5)) = some (.string p.s) := e0
        clear e0 HW
        generalize wr.drewN nq = wp at *
        go_wp2_with fail
        go_roundw
        case rel => exact ⟨k + 1, q + nq, by omega, by go_num, by rw [← HE.out], HW2.out⟩
        case measure => simp only [intOf]; omega
      · obtain ⟨j, hj⟩ : ∃ j, k = j + 1 := ⟨k - 1, by omega⟩
        have e2 : wr.cell? (ad.add (j * 5)) = some (.string (l.getD j pc0).s) := by rw [HW.out]; exact (hat.piece j (by omega)).ser
        have fj : IntKind.i64.wrap ((k : Int) - 1) = (j : Int) := by rw [IntWalk.i64_in _ (by omega)]; omega
        have hjl : (j : Int) < (l.length : Int) := by omega
        have hj0 : (0 : Int) ≤ (j : Int) := by omega
        have t0 : ((k : Int) == 0) = false := by rw [beq_eq_false_iff_ne]; omega
        have HKJ := Lib.hid (show k - 1 = j by omega)
        have HK0 := Lib.hid (show ¬ k = 0 by omega)
        clear hj h0 hat
        by_cases hse : ((l.getD k pc0).s.toList == (l.getD j pc0).s.toList) = true
        · have HRT := Lib.hid (show roomTo l (k + 1) = roomTo l k + 32 by
            rw [HSU.out, HKJ.out, if_neg (by rintro (h | h); · exact HK0.out h
                                             · exact h (toList_inj (eq_of_beq hse)))])
          clear HSU
          generalize l.getD k pc0 = p at *
          generalize l.getD j pc0 = p' at *
          generalize hr0 : roomTo l k = r0 at *
          clear hr0
          have HE := Lib.hid (show (r0 : Int) + 32 = ((roomTo l (k + 1) : Nat) : Int) by rw [HRT.out]; omega)
          clear HRT hb1
          go_upto_region 5 with fail
          go_quiet (fail)
          have HW2 := Lib.hid (show wr.drewN nq = w.drewN (q + nq) by rw [HW.out]; exact World.drewN_drewN ..)
          have e1 : (wr.drewN nq).cell? (ad.add (k * 5)) = some (.string p.s) := e0
          clear e0 e2 HW
          generalize wr.drewN nq = wp at *
          go_wp2_with fail
          go_roundw
          case rel => exact ⟨k + 1, q + nq, by omega, by go_num, by rw [← HE.out], HW2.out⟩
          case measure => simp only [intOf]; omega
        · have hsf : ((l.getD k pc0).s.toList == (l.getD j pc0).s.toList) = false := by simpa using hse
          have HRT := Lib.hid (show roomTo l (k + 1) = roomTo l k + (6 + (l.getD k pc0).s.size) + 32 by
            rw [HSU.out, HKJ.out, if_pos (.inr (fun h => hse (by rw [h]; simp)))])
          clear HSU hse
          generalize l.getD k pc0 = p at *
          generalize l.getD j pc0 = p' at *
          generalize hr0 : roomTo l k = r0 at *
          clear hr0
          have f1 : IntKind.i64.wrap ((r0 : Int) + 6) = (r0 : Int) + 6 := IntWalk.i64_in _ (by omega)
          have f2 : IntKind.i64.wrap ((r0 : Int) + 6 + (p.s.size : Int)) = (r0 : Int) + 6 + (p.s.size : Int) := IntWalk.i64_in _ (by omega)
          have HE := Lib.hid (show (r0 : Int) + 6 + (p.s.size : Int) + 32 = ((roomTo l (k + 1) : Nat) : Int) by rw [HRT.out]; omega)
          clear HRT hb1
          go_upto_region 5 with fail
          go_quiet (fail)
          have HW2 := Lib.hid (show wr.drewN nq = w.drewN (q + nq) by rw [HW.out]; exact World.drewN_drewN ..)
          have e1 : (wr.drewN nq).cell? (ad.add (k * 5)) = some (.string p.s) := e0
          clear e0 e2 HW
          generalize wr.drewN nq = wp at *
          go_wp2_with fail
          go_roundw
          case rel => exact ⟨k + 1, q + nq, by omega, by go_num, by rw [← HE.out], HW2.out⟩
          case measure => simp only [intOf]; omega
    · obtain rfl : k = l.length := by omega
      go_wp2_with fail
      go_ret
      exact ⟨by rw [roomTo_all]; rfl, q, HW.out.symm ▸ rfl⟩
end Go.Proofs.YtaikejlcpnelpaaDoor
/- Contracts: how many pieces are of one series. -/
namespace Go.Proofs.YtaikejlcpnelpaaDoor
set_option maxRecDepth 100000
open Go.RowKit
set_option linter.unusedVariables false
set_option linter.unusedSimpArgs false
theorem run1_at (s : ByteArray) : ∀ (l : List Pc) (k : Nat), k ≤ run1 s l → k < l.length → ((l.getD k pc0).s = s → k + 1 ≤ run1 s l) ∧ ((l.getD k pc0).s ≠ s → run1 s l = k)
  | [], k, _, h => by simp at h
  | p :: l, 0, hk, _ => by
    unfold run1
    constructor
    · intro h
      have h' : p.s = s := h
      rw [if_pos h']; omega
    · intro h
      have h' : ¬ p.s = s := h
      rw [if_neg h']
  | p :: l, k + 1, hk, h => by
    unfold run1 at hk ⊢
    by_cases he : p.s = s
    · rw [if_pos he] at hk ⊢
      have := run1_at s l k (by omega) (by simpa using h)
      simp only [List.getD_cons_succ]
      exact ⟨fun h1 => by have := this.1 h1; omega, fun h1 => by have := this.2 h1; omega⟩
    · rw [if_neg he] at hk; omega
/-- the closure: is it of another series? -/
theorem closure_c (p : Pc) (gl n c : Nat) (a : Addr) (s0 : ByteArray) (w : World) (hv : w.cell? ⟨gl, 0, none⟩ = some (.slice (some a) n c)) (hn : 0 < n) (ha : w.cell? a = some (.string s0)) (hb : gl < w.heap.size) (hab : a.block < w.heap.size) :
    Calls Tryd.prog 78 #[.agg (pcV p), .pointer (some ⟨gl, 0, none⟩)] w fun e w' => e = .returned (.bool (!(p.s.toList == s0.toList))) ∧ Below w.heap.size w w' := by
  have h1 : Blk (w.alloc (Obj.cells (pcV p) 57)) w.heap.size 57 (pcV p) := Blk.new w _ _
  have hB : Below w.heap.size w (w.alloc (Obj.cells (pcV p) 57)) := (Below.refl _ _).alloc (Nat.le_refl _) _
  have HB := Lib.hid hB
  have c0 : (w.alloc (Obj.cells (pcV p) 57)).cell? ⟨w.heap.size, 0, none⟩ = some (.string p.s) := (h1.cell 0).trans rfl
  have c1 : (w.alloc (Obj.cells (pcV p) 57)).cell? ⟨gl, 0, none⟩ = some (.slice (some a) n c) := (hB.cell (p := ⟨gl, 0, none⟩) hb).trans hv
  have c2 : (w.alloc (Obj.cells (pcV p) 57)).cell? a = some (.string s0) := (hB.cell hab).trans ha
  have p0 : (0 : Int) < (n : Int) := by omega
  obtain ⟨r, hr⟩ : ∃ r, r = !(p.s.toList == s0.toList) := ⟨_, rfl⟩
  have HR := Lib.hid hr
  rw [← hr]
  clear h1 hB hv ha hb hab hr
  go_enter Tryd.func78, Tryd.ntmps78
  go_upto_region 1 with (refine Go.Great.wpList_boxTo rfl 57 (.tmp 0) rfl (some 2) rfl w.heap.size rfl (pcV p) rfl ?_)
  generalize w.alloc (Obj.cells (pcV p) 57) = Z at *
  go_quiet (fail)
  have HB2 := Lib.hid (belowDrewN nq HB.out)
  generalize Z.drewN nq = Z2 at *
  go_wp2_with fail
  go_ret
  exact ⟨by rw [HR.out]; rfl, HB2.out⟩
/-- the index of the first one that is of another series, or -1 -/
def idxR (m n : Nat) : Int := if m < n then (m : Int) else -1
set_option maxRecDepth 100000 in
set_option maxHeartbeats 1000000 in
theorem index_c (gl c : Nat) (a : Addr) (l : List Pc) (s0 : ByteArray) (w : World) (hv : w.cell? ⟨gl, 0, none⟩ = some (.slice (some a) l.length c)) (hn : 0 < l.length) (hs0 : s0 = (l.getD 0 pc0).s) (hat : AtA w a (pcs l)) (hb : gl < w.heap.size) (hab : a.block < w.heap.size) (h1 : l.length ≤ 1000000) :
    Calls Tryd.prog 77 #[.slice (some a) l.length c, .func (.func 78) #[] #[.pointer (some ⟨gl, 0, none⟩)]] w fun e w' => e = .returned (.int .i64 (idxR (run1 s0 l) l.length)) ∧ Below w.heap.size w w' := by
  have HAT := Lib.hid hat
  have HRA := Lib.hid (run1_at s0 l)
  have HRL := Lib.hid (run1_le s0 l)
  have HCL := Lib.hid (fun W (h : Below w.heap.size w W) p => closure_c p gl l.length c a s0 W ((h.cell (p := ⟨gl, 0, none⟩) hb).trans hv) hn ((h.cell hab).trans (by rw [hs0]; have := (hat.piece 0 hn).ser; simpa [Addr.add] using this)) (Nat.lt_of_lt_of_le hb h.size) (Nat.lt_of_lt_of_le hab h.size))
  have HAB := Lib.hid hab
  obtain ⟨r, hr⟩ : ∃ r, r = idxR (run1 s0 l) l.length := ⟨_, rfl⟩
  have HRR := Lib.hid (show r = if run1 s0 l < l.length then ((run1 s0 l : Nat) : Int) else -1 from hr)
  rw [← hr]
  clear hv hat hb hab hs0 hr
  generalize run1 s0 l = m at *
  go_enter Tryd.func77, Tryd.ntmps77
  go_wp2
  go_loopw [8] (fun i wr => ∃ k : Nat, k ≤ l.length ∧ k ≤ m ∧ i = .int .i64 k ∧ Below w.heap.size w wr) (fun i _ => l.length - (intOf i).toNat)
  case atStart => exact ⟨0, Nat.zero_le _, Nat.zero_le _, rfl, Below.refl _ _⟩
  case round =>
    rename World => wr
    obtain ⟨k, hk, hkm, rfl, hb⟩ := hrel
    have HB := Lib.hid hb
    clear hb
    by_cases hlt : k < l.length
    · have p1 : (k : Int) < (l.length : Int) := by omega
      have HPC := Lib.hid ((HAT.out.below HB.out HAB.out).piece k hlt)
      have HRK := Lib.hid (HRA.out k hkm hlt)
      have HPI := Lib.hid (pcLn (l.getD k pc0))
      have HCK := Lib.hid (HCL.out wr HB.out (l.getD k pc0))
      generalize l.getD k pc0 = p at *
      by_cases hse : p.s = s0
      · have HK1 := Lib.hid (HRK.out.1 hse)
        have HS := Lib.hid (show (!(p.s.toList == s0.toList)) = false by rw [hse]; simp)
        rw [HS.out] at HCK
        clear hse
        go_wp2_with (first
          | (refine wpList_loadA rfl 57 (.tmp 14) rfl (a.add (k * 5)) rfl (pcL p) _ HPC.out Tryd.underlying57 rfl HPI.out ?_)
          | (go_at_call 78; (refine HCK.out.mono ?_); rintro e W1 ⟨rfl, hb1⟩; have HB1 := Lib.hid (HB.out.trans (hb1.mono HB.out.size)); clear hb1))
        go_roundw
        case rel => exact ⟨k + 1, by omega, by have := HK1.out; omega, by go_num, HB1.out⟩
        case measure => simp only [intOf]; omega
      · have HK1 := Lib.hid (HRK.out.2 hse)
        have HS := Lib.hid (show (!(p.s.toList == s0.toList)) = true by
          rw [Bool.not_eq_true', beq_eq_false_iff_ne]
          exact fun h => hse (toList_inj h))
        rw [HS.out] at HCK
        have HRV := Lib.hid (show r = (k : Int) by rw [HRR.out, HK1.out, if_pos hlt])
        clear hse
        go_wp2_with (first
          | (refine wpList_loadA rfl 57 (.tmp 14) rfl (a.add (k * 5)) rfl (pcL p) _ HPC.out Tryd.underlying57 rfl HPI.out ?_)
          | (go_at_call 78; (refine HCK.out.mono ?_); rintro e W1 ⟨rfl, hb1⟩; have HB1 := Lib.hid (HB.out.trans (hb1.mono HB.out.size)); clear hb1))
        go_ret
        exact ⟨by rw [HRV.out]; rfl, HB1.out⟩
    · obtain rfl : k = l.length := by omega
      have HRV := Lib.hid (show r = (-1 : Int) by rw [HRR.out, if_neg (by omega)])
      go_wp2_with fail
      go_ret
      exact ⟨by rw [HRV.out]; rfl, HB.out⟩
end Go.Proofs.YtaikejlcpnelpaaDoor
/- Contract: the groups. -/
namespace Go.Proofs.YtaikejlcpnelpaaDoor
set_option maxRecDepth 100000
open Go.RowKit
set_option linter.unusedVariables false
set_option linter.unusedSimpArgs false
/-- the groups' slices -/
def gv (ad : Addr) (c : Nat) : Nat → List Nat → List Value
  | _, [] => []
  | off, m :: ms => .slice (some (ad.add (off * 5))) m (c - off) :: gv ad c (off + m) ms
theorem gv_len (ad : Addr) (c : Nat) : ∀ (off : Nat) (ms : List Nat), (gv ad c off ms).length = ms.length
  | _, [] => rfl
  | off, m :: ms => by rw [gv, List.length_cons, gv_len ad c (off + m) ms, List.length_cons]
theorem gv_snoc (ad : Addr) (c m : Nat) : ∀ (off : Nat) (ms : List Nat), gv ad c off (ms ++ [m]) = gv ad c off ms ++ [.slice (some (ad.add ((off + ms.sum) * 5))) m (c - (off + ms.sum))]
  | off, [] => by simp [gv]
  | off, n :: ms => by
    rw [List.cons_append, gv, gv, gv_snoc ad c m (off + n) ms, List.sum_cons, List.cons_append, Nat.add_assoc]
theorem gv_at (ad : Addr) (c : Nat) : ∀ (off : Nat) (ms : List Nat) (k : Nat), k < ms.length → (gv ad c off ms)[k]? = some (.slice (some (ad.add ((off + (ms.take k).sum) * 5))) (ms.getD k 0) (c - (off + (ms.take k).sum)))
  | off, [], k, h => by simp at h
  | off, m :: ms, 0, h => by simp [gv]
  | off, m :: ms, k + 1, h => by
    rw [gv, List.getElem?_cons_succ, gv_at ad c (off + m) ms k (by simpa using h), List.take_succ_cons, List.sum_cons, List.getD_cons_succ, Nat.add_assoc]
theorem gv_one (ad : Addr) (c off : Nat) (ms : List Nat) : ∀ u ∈ gv ad c off ms, u.oneCell' = true := by
  induction ms generalizing off with
  | nil => intro u h; cases h
  | cons m ms ih =>
    intro u h
    rcases List.mem_cons.1 h with rfl | h
    · rfl
    · exact ih _ u h
theorem grps_at (l : List Pc) : ∀ (ns : List Nat) (k : Nat) (off : Nat), k < ns.length → (cutsL ns (l.drop off)).getD k [] = (l.drop (off + (ns.take k).sum)).take (ns.getD k 0)
  | [], k, off, h => by simp at h
  | n :: ns, 0, off, h => by simp [cutsL]
  | n :: ns, k + 1, off, h => by
    rw [cutsL, List.getD_cons_succ, List.drop_drop, grps_at l ns k (off + n) (by simpa using h), List.take_succ_cons, List.sum_cons, List.getD_cons_succ, Nat.add_assoc]
theorem cutsL_len : ∀ (ns : List Nat) (l : List Pc), (cutsL ns l).length = ns.length
  | [], _ => rfl
  | n :: ns, l => by rw [cutsL, List.length_cons, cutsL_len ns, List.length_cons]
theorem grps_len (l : List Pc) : (grps l).length = (gls l).length := cutsL_len _ _
theorem gls_sum : ∀ l : List Pc, (gls l).sum = l.length := grps_ind (by rw [gls_nil]; rfl) fun p l ih => by
  rw [gls_cons, List.sum_cons, ih, List.length_drop, List.length_cons]
  have := run1_le p.s l
  omega
theorem gls_le (l : List Pc) (h : 0 < l.length) : gls l = run1 (l.getD 0 pc0).s l :: gls (l.drop (run1 (l.getD 0 pc0).s l)) ∧ 0 < run1 (l.getD 0 pc0).s l ∧ run1 (l.getD 0 pc0).s l ≤ l.length := by
  cases l with
  | nil => simp at h
  | cons p l =>
    have e : run1 p.s (p :: l) = run1 p.s l + 1 := by conv => lhs; unfold run1; rw [if_pos rfl]
    have := run1_le p.s (p :: l)
    rw [List.getD_cons_zero, e]
    rw [e] at this
    exact ⟨by rw [gls_cons, List.drop_succ_cons], by omega, this⟩
def OwnG (w : World) (base : Nat) (v : Value) (xs : List Value) : Prop := w.ownsRow base 27 1 v xs.length xs
theorem OwnG.next {w w' : World} {base : Nat} {v : Value} {xs : List Value} (h : OwnG w base v xs) (hb : Below w.heap.size w w') : OwnG w' base v xs := own_keep (S := fun _ => False) h (Only.of_below hb) (fun _ _ h => h)
theorem OwnG.alloc {w : World} {base : Nat} {v : Value} {xs : List Value} (h : OwnG w base v xs) (o : Obj) : OwnG (w.alloc o) base v xs := World.ownsRow.alloc h o
theorem OwnG.off {w w' : World} {base : Nat} {v : Value} {xs : List Value} {S : Nat → Prop} (h : OwnG w base v xs) (ho : Only S w w') (hS : ∀ k, S k → k < base) : OwnG w' base v xs :=
  own_keep h ho (fun g hg hs => by
    rcases h.2 with ⟨h1, h2⟩ | ⟨g', cap, cur, h1, hb, _⟩
    · rw [h1] at hg; cases hg
    · rw [h1] at hg
      have e : g' = g := by simpa [Value.ownBlock] using hg
      have := hS g hs
      omega)
theorem OwnG.snoc {w w' : World} {base : Nat} {v v' x : Value} {xs : List Value} (h : Apped w base 27 1 v w' v' (xs.length + 1) (xs ++ [x])) : OwnG w' base v' (xs ++ [x]) := by
  have := h.own
  unfold OwnG
  rw [List.length_append]
  exact this
theorem grpInfo : (Tryd.prog.info? 27).map (fun i => (i.zero, i.size, i.bytes)) = some (some (.slice none 0 0), 1, 24) := by kernel_rfl
set_option maxRecDepth 100000 in
set_option maxHeartbeats 2000000 in
theorem groups_c (ad : Addr) (c : Nat) (l : List Pc) (w : World) (hat : AtA w ad (pcs l)) (hab : ad.block < w.heap.size) (hc : l.length ≤ c) (h0 : 0 < l.length) (h1 : l.length ≤ 100000) :
    Calls Tryd.prog 67 #[.slice (some ad) l.length c] w fun e w' => ∃ v, e = .returned v ∧ OwnG w' w.heap.size v (gv ad c 0 (gls l)) ∧ Below w.heap.size w w' := by
  obtain ⟨i0, hib, hz0, hz1, hz2⟩ := info_parts grpInfo
  have HAT := Lib.hid hat
  have HAB := Lib.hid hab
  have HLEN := Lib.hid (show (gls l).length ≤ l.length from by
    have hgn : ∀ l : List Pc, (gls l).length ≤ l.length := grps_ind (by rw [gls_nil]; exact Nat.le_refl _) fun p l ih => by
      rw [gls_cons, List.length_cons, List.length_cons]
      rw [List.length_drop] at ih
      omega
    exact hgn l)
  clear hat hab
  go_enter Tryd.func67, Tryd.ntmps67
  go_wp2_with fail
  go_loopw [3] (fun o wr => ∃ (ms : List Nat) (A' : Option Addr), ms.sum ≤ l.length ∧ gls l = ms ++ gls (l.drop ms.sum) ∧ OwnG wr (w.heap.size + 1) o (gv ad c 0 ms) ∧ Below w.heap.size w wr ∧ Blk wr w.heap.size 27 #[.slice A' (l.length - ms.sum) (c - ms.sum)] ∧ (ms.sum < l.length → A' = some (ad.add (ms.sum * 5))) ∧ w.heap.size + 1 ≤ wr.heap.size) (fun _ wr => match wr.cell? ⟨w.heap.size, 0, none⟩ with | some (.slice _ n _) => n | _ => 0)
  case atStart => exact ⟨[], some ad, Nat.zero_le _, by simp, ⟨rfl, .inl ⟨rfl, rfl⟩⟩, (Below.refl _ _).alloc (Nat.le_refl _) _, Blk.new _ _ _, fun _ => by simp [Addr.add], by simp⟩
  case round =>
    rename World => wr
    obtain ⟨ms, A', hms, hgl, ho, hb, hB, hA, hsz⟩ := hrel
    have HGL := Lib.hid hgl
    have HO := Lib.hid ho
    have HB := Lib.hid hb
    have HBK := Lib.hid hB
    have HSZ := Lib.hid hsz
    have c0 : wr.cell? ⟨w.heap.size, 0, none⟩ = some (.slice A' (l.length - ms.sum) (c - ms.sum)) := (hB.cell 0).trans rfl
    have fz : wr.frozen? ⟨w.heap.size, 0, none⟩ = false := hB.free 0
    clear hgl ho hb hB hsz
    by_cases hlt : ms.sum < l.length
    · have hAA := hA hlt
      subst hAA
      have HATW := Lib.hid (show AtA wr (ad.add (ms.sum * 5)) (pcs (l.drop ms.sum)) by
        rw [pcs_drop]
        have h1 := (HAT.out.below HB.out HAB.out).drop (ms.sum * 5) ((pcs l).length - ms.sum * 5)
        rwa [List.take_of_length_le (by rw [List.length_drop]; exact Nat.le_refl _)] at h1)
      have HG := gls_le (l.drop ms.sum) (by rw [List.length_drop]; omega)
      have HLL := Lib.hid (show (l.drop ms.sum).length = l.length - ms.sum from List.length_drop ..)
      have HIC := Lib.hid (index_c w.heap.size (c - ms.sum) (ad.add (ms.sum * 5)) (l.drop ms.sum) ((l.drop ms.sum).getD 0 pc0).s wr (by rw [HLL.out]; exact c0) (by rw [HLL.out]; omega) rfl HATW.out HBK.out.lt (by have := HB.out.size; have := HAB.out; rw [add_block]; omega) (by rw [HLL.out]; omega))
      rw [HLL.out] at HIC HG
      rw [List.drop_drop] at HG
      obtain ⟨m, hm⟩ : ∃ m, m = run1 ((l.drop ms.sum).getD 0 pc0).s (l.drop ms.sum) := ⟨_, rfl⟩
      rw [← hm] at HIC HG
      obtain ⟨hg1, hg2, hg3⟩ := HG
      have HGS := Lib.hid (gv_snoc ad c m 0 ms)
      rw [Nat.zero_add] at HGS
      have HGM := Lib.hid (show gls l = (ms ++ [m]) ++ gls (l.drop (ms.sum + m)) by rw [HGL.out, hg1, List.append_assoc]; rfl)
      have HSUM := Lib.hid (show (ms ++ [m]).sum = ms.sum + m by simp)
      have HGN := Lib.hid (gv_len ad c 0 ms)
      have HMN := Lib.hid (show ms.length ≤ l.length from by have h1 := congrArg List.length HGL.out; rw [List.length_append] at h1; have := HLEN.out; omega)
      have HADD := Lib.hid (show (ad.add (ms.sum * 5)).add (m * 5) = ad.add ((ms.sum + m) * 5) by rw [Addr.add_add, Nat.add_mul])
      clear hm hg1 HATW hA HGL
      obtain ⟨N, hN⟩ : ∃ N, N = l.length - ms.sum := ⟨_, rfl⟩
      obtain ⟨C, hC⟩ : ∃ C, C = c - ms.sum := ⟨_, rfl⟩
      rw [← hN] at HIC hg3 c0
      rw [← hC] at HIC HGS c0
      have HNN := Lib.hid (show l.length - (ms.sum + m) = N - m by omega)
      have HCC := Lib.hid (show c - (ms.sum + m) = C - m by omega)
      have hNC : N ≤ C := by omega
      have hms2 : ms.sum + m ≤ l.length := by omega
      have HBK2 := Lib.hid (show Blk wr w.heap.size 27 #[.slice (some (ad.add (ms.sum * 5))) N C] by rw [hN, hC]; exact HBK.out)
      have hN0 : (0 : Int) < (N : Int) := by omega
      have hNle : N ≤ l.length := by omega
      clear hN hC hms hlt HLL HBK
      generalize ad.add (ms.sum * 5) = a' at *
      have q0 : (0 : Int) ≤ (m : Int) := by omega
      have q1 : (m : Int) ≤ (N : Int) := by omega
      have q2 : (m : Int) ≤ (C : Int) := by omega
      have q3 : decide ((m : Int) < 0) = false := decide_eq_false (by omega)
      have q4 : decide ((-1 : Int) < 0) = true := rfl
      by_cases hmN : m < N
      · have hid : idxR m N = (m : Int) := by unfold idxR; rw [if_pos hmN]
        rw [hid] at HIC
        have hCm : ¬ C = m := by omega
        clear hid
        go_wp2_with (first
          | (go_at_call 77; (refine HIC.out.mono ?_); rintro e W1 ⟨rfl, hb1⟩; have HB1 := Lib.hid (HB.out.trans (hb1.mono HB.out.size)); have HO1 := Lib.hid (show OwnG W1 (w.heap.size + 1) _ (gv ad c 0 ms) from OwnG.next HO.out hb1); have HBK1 := HBK2.out.below hb1 HBK2.out.lt; have d0 : W1.cell? ⟨w.heap.size, 0, none⟩ = some (.slice (some a') N C) := (HBK1.cell 0).trans rfl; have HBK3 := Lib.hid HBK1; have HS1 := Lib.hid (Nat.le_trans HSZ.out hb1.size); clear hb1 HBK1)
          | (at_builtin; go_loud (refine wpList_app _ rfl (.tmp 15) (.tmp 19) _ rfl (w.heap.size + 1) 27 i0 (.slice none 0 0) 1 24 Tryd.underlying110 hib hz0 hz1 hz2 rfl (by decide) _ _ (gv ad c 0 ms) rfl (HO1.out.alloc _) _ (some ⟨W1.heap.size, 0, none⟩) 1 1 [.slice (some a') m C] rfl rfl (by exact rd_new W1 [.slice (some a') m C] _ (0, 0)) (by intro u hu; rw [List.mem_singleton.1 hu]; rfl) (by rw [HGN.out]; have := HMN.out; omega) (by rw [HGN.out]; have := HMN.out; omega) (by have := HS1.out; simp; omega) ?_; intro v1 w2 hap; have hbw := hap.below (HO1.out.alloc _) (by have := HS1.out; simp; omega); have hbk4 := (HBK3.out.alloc (Obj.cells #[.slice (some a') m C] 27)).below hbw (Nat.lt_succ_self _); have d1 : w2.cell? ⟨w.heap.size, 0, none⟩ = some (.slice (some a') N C) := (hbk4.cell 0).trans rfl; have d2 : w2.frozen? ⟨w.heap.size, 0, none⟩ = false := hbk4.free 0; have HBK4 := Lib.hid hbk4; have HAP := Lib.hid (OwnG.snoc hap); have HB2 := Lib.hid ((HB1.out.alloc HB1.out.size (Obj.cells #[.slice (some a') m C] 27)).trans (hbw.mono (Nat.le_succ _))); have HS2 := Lib.hid (show w.heap.size + 1 ≤ w2.heap.size from Nat.le_trans (Nat.le_trans HS1.out (by simp)) hbw.size); clear hap hbw hbk4 d0)))
        go_roundw
        case rel => exact ⟨ms ++ [m], _, by rw [HSUM.out]; omega, by rw [HSUM.out]; exact HGM.out, by rw [HGS.out]; exact HAP.out.off ((Only.refl (fun k => k = w.heap.size) w2).setCell (p := ⟨w.heap.size, 0, none⟩) (fun _ => rfl) _) (fun k hk => by omega), HB2.out.setCell (by show w.heap.size ≤ w.heap.size; omega) _, by rw [HSUM.out, HNN.out, HCC.out]; exact HBK4.out.set_ 0 _, fun h => by rw [HSUM.out, HADD.out], by simpa using HS2.out⟩
        case measure =>
          have HM1 := (HBK4.out.set_ 0 (.slice (some (a'.add (m * 5))) (N - m) (C - m))).cell 0
          have HM0 := (HBK2.out.cell 0)
          rw [HM0, HM1]
          show (N - m) < N
          omega
      · have hmN2 : m = N := by omega
        subst hmN2
        have hid : idxR m m = -1 := by unfold idxR; rw [if_neg (by omega)]
        rw [hid] at HIC
        clear hid hmN q1
        have HEND := Lib.hid (show ms.sum + m = l.length by have := HNN.out; omega)
        by_cases hCm : C = m
        · have hCm' : m = C := hCm.symm
          subst hCm'
          clear hCm
          go_wp2_with (first
            | (go_at_call 77; (refine HIC.out.mono ?_); rintro e W1 ⟨rfl, hb1⟩; have HB1 := Lib.hid (HB.out.trans (hb1.mono HB.out.size)); have HO1 := Lib.hid (show OwnG W1 (w.heap.size + 1) _ (gv ad c 0 ms) from OwnG.next HO.out hb1); have HBK1 := HBK2.out.below hb1 HBK2.out.lt; have d0 : W1.cell? ⟨w.heap.size, 0, none⟩ = some (.slice (some a') m m) := (HBK1.cell 0).trans rfl; have HBK3 := Lib.hid HBK1; have HS1 := Lib.hid (Nat.le_trans HSZ.out hb1.size); clear hb1 HBK1)
            | (at_builtin; go_loud (refine wpList_app _ rfl (.tmp 15) (.tmp 19) _ rfl (w.heap.size + 1) 27 i0 (.slice none 0 0) 1 24 Tryd.underlying110 hib hz0 hz1 hz2 rfl (by decide) _ _ (gv ad c 0 ms) rfl (HO1.out.alloc _) _ (some ⟨W1.heap.size, 0, none⟩) 1 1 [.slice (some a') m m] rfl rfl (by exact rd_new W1 [.slice (some a') m m] _ (0, 0)) (by intro u hu; rw [List.mem_singleton.1 hu]; rfl) (by rw [HGN.out]; have := HMN.out; omega) (by rw [HGN.out]; have := HMN.out; omega) (by have := HS1.out; simp; omega) ?_; intro v1 w2 hap; have hbw := hap.below (HO1.out.alloc _) (by have := HS1.out; simp; omega); have hbk4 := (HBK3.out.alloc (Obj.cells #[.slice (some a') m m] 27)).below hbw (Nat.lt_succ_self _); have d1 : w2.cell? ⟨w.heap.size, 0, none⟩ = some (.slice (some a') m m) := (hbk4.cell 0).trans rfl; have d2 : w2.frozen? ⟨w.heap.size, 0, none⟩ = false := hbk4.free 0; have HBK4 := Lib.hid hbk4; have HAP := Lib.hid (OwnG.snoc hap); have HB2 := Lib.hid ((HB1.out.alloc HB1.out.size (Obj.cells #[.slice (some a') m m] 27)).trans (hbw.mono (Nat.le_succ _))); have HS2 := Lib.hid (show w.heap.size + 1 ≤ w2.heap.size from Nat.le_trans (Nat.le_trans HS1.out (by simp)) hbw.size); clear hap hbw hbk4 d0)))
          go_roundw
          case rel => exact ⟨ms ++ [m], _, by rw [HSUM.out]; omega, by rw [HSUM.out]; exact HGM.out, by rw [HGS.out]; exact HAP.out.off ((Only.refl (fun k => k = w.heap.size) w2).setCell (p := ⟨w.heap.size, 0, none⟩) (fun _ => rfl) _) (fun k hk => by omega), HB2.out.setCell (by show w.heap.size ≤ w.heap.size; omega) _, by rw [HSUM.out, HNN.out, HCC.out, Nat.sub_self]; exact HBK4.out.set_ 0 _, fun h => by rw [HSUM.out, HEND.out] at h; omega, by simpa using HS2.out⟩
          case measure =>
            have HM1 := (HBK4.out.set_ 0 (.slice (some a') 0 (0))).cell 0
            have HM0 := (HBK2.out.cell 0)
            rw [HM0, HM1]
            show 0 < m
            omega
        · go_wp2_with (first
            | (go_at_call 77; (refine HIC.out.mono ?_); rintro e W1 ⟨rfl, hb1⟩; have HB1 := Lib.hid (HB.out.trans (hb1.mono HB.out.size)); have HO1 := Lib.hid (show OwnG W1 (w.heap.size + 1) _ (gv ad c 0 ms) from OwnG.next HO.out hb1); have HBK1 := HBK2.out.below hb1 HBK2.out.lt; have d0 : W1.cell? ⟨w.heap.size, 0, none⟩ = some (.slice (some a') m C) := (HBK1.cell 0).trans rfl; have HBK3 := Lib.hid HBK1; have HS1 := Lib.hid (Nat.le_trans HSZ.out hb1.size); clear hb1 HBK1)
            | (at_builtin; go_loud (refine wpList_app _ rfl (.tmp 15) (.tmp 19) _ rfl (w.heap.size + 1) 27 i0 (.slice none 0 0) 1 24 Tryd.underlying110 hib hz0 hz1 hz2 rfl (by decide) _ _ (gv ad c 0 ms) rfl (HO1.out.alloc _) _ (some ⟨W1.heap.size, 0, none⟩) 1 1 [.slice (some a') m C] rfl rfl (by exact rd_new W1 [.slice (some a') m C] _ (0, 0)) (by intro u hu; rw [List.mem_singleton.1 hu]; rfl) (by rw [HGN.out]; have := HMN.out; omega) (by rw [HGN.out]; have := HMN.out; omega) (by have := HS1.out; simp; omega) ?_; intro v1 w2 hap; have hbw := hap.below (HO1.out.alloc _) (by have := HS1.out; simp; omega); have hbk4 := (HBK3.out.alloc (Obj.cells #[.slice (some a') m C] 27)).below hbw (Nat.lt_succ_self _); have d1 : w2.cell? ⟨w.heap.size, 0, none⟩ = some (.slice (some a') m C) := (hbk4.cell 0).trans rfl; have d2 : w2.frozen? ⟨w.heap.size, 0, none⟩ = false := hbk4.free 0; have HBK4 := Lib.hid hbk4; have HAP := Lib.hid (OwnG.snoc hap); have HB2 := Lib.hid ((HB1.out.alloc HB1.out.size (Obj.cells #[.slice (some a') m C] 27)).trans (hbw.mono (Nat.le_succ _))); have HS2 := Lib.hid (show w.heap.size + 1 ≤ w2.heap.size from Nat.le_trans (Nat.le_trans HS1.out (by simp)) hbw.size); clear hap hbw hbk4 d0)))
          go_roundw
          case rel => exact ⟨ms ++ [m], _, by rw [HSUM.out]; omega, by rw [HSUM.out]; exact HGM.out, by rw [HGS.out]; exact HAP.out.off ((Only.refl (fun k => k = w.heap.size) w2).setCell (p := ⟨w.heap.size, 0, none⟩) (fun _ => rfl) _) (fun k hk => by omega), HB2.out.setCell (by show w.heap.size ≤ w.heap.size; omega) _, by rw [HSUM.out, HNN.out, HCC.out, Nat.sub_self]; exact HBK4.out.set_ 0 _, fun h => by rw [HSUM.out, HEND.out] at h; omega, by simpa using HS2.out⟩
          case measure =>
            have HM1 := (HBK4.out.set_ 0 (.slice (some (a'.add (m * 5))) 0 (C - m))).cell 0
            have HM0 := (HBK2.out.cell 0)
            rw [HM0, HM1]
            show 0 < m
            omega
    · have hend : ms.sum = l.length := by omega
      have HFG := Lib.hid (show gls l = ms by rw [HGL.out, hend, List.drop_length, gls_nil, List.append_nil])
      have hn0 : l.length - ms.sum = 0 := by omega
      rw [hn0] at c0
      clear hn0 hend hlt hA
      go_wp2_with fail
      refine bodyPost_ret (results_tmp rfl _ _ _) rfl ?_
      exact ⟨_, rfl, by rw [HFG.out]; exact own_base_le HO.out (by omega), HB.out⟩
end Go.Proofs.YtaikejlcpnelpaaDoor
/- Contract: the room. -/
namespace Go.Proofs.YtaikejlcpnelpaaDoor
set_option maxRecDepth 100000
open Go.RowKit
set_option linter.unusedVariables false
set_option linter.unusedSimpArgs false
theorem groups0_c (A : Option Addr) (c : Nat) (w : World) : Calls Tryd.prog 67 #[.slice A 0 c] w fun e w' => e = .returned (.slice none 0 0) ∧ Below w.heap.size w w' := by
  have HB := Lib.hid (show Below w.heap.size w (w.alloc (.cells #[.slice A 0 c] 27)) from (Below.refl _ _).alloc (Nat.le_refl _) _)
  go_enter Tryd.func67, Tryd.ntmps67
  go_wp2_with fail
  go_loopw [3] (fun o wr => o = .slice none 0 0 ∧ wr = w.alloc (.cells #[.slice A 0 c] 27)) (fun _ wr => 0)
  case atStart => exact ⟨rfl, rfl⟩
  case round =>
    rename World => wr
    obtain ⟨rfl, rfl⟩ := hrel
    go_wp2_with fail
    refine bodyPost_ret (results_tmp rfl _ _ _) rfl ?_
    exact ⟨rfl, HB.out⟩
theorem gls_pos : ∀ l : List Pc, ∀ m ∈ gls l, 0 < m := grps_ind (by rw [gls_nil]; intro m h; cases h) fun p l ih m h => by
  rw [gls_cons] at h
  rcases List.mem_cons.1 h with rfl | h
  · omega
  · exact ih m h
theorem sum_take_succ : ∀ (ms : List Nat) (k : Nat), k < ms.length → (ms.take (k + 1)).sum = (ms.take k).sum + ms.getD k 0
  | [], k, h => by simp at h
  | m :: ms, 0, h => by simp
  | m :: ms, k + 1, h => by
    rw [List.take_succ_cons, List.sum_cons, sum_take_succ ms k (by simpa using h), List.take_succ_cons, List.sum_cons, List.getD_cons_succ, Nat.add_assoc]
theorem sum_take_le : ∀ (ms : List Nat) (k : Nat), (ms.take k).sum ≤ ms.sum
  | [], k => by simp
  | m :: ms, 0 => by simp
  | m :: ms, k + 1 => by
    rw [List.take_succ_cons, List.sum_cons, List.sum_cons]
    have := sum_take_le ms k
    omega
/-- where a group begins -/
def offG (l : List Pc) (k : Nat) : Nat := ((gls l).take k).sum
def lenG (l : List Pc) (k : Nat) : Nat := (gls l).getD k 0
theorem offG_succ (l : List Pc) (k : Nat) (h : k < (gls l).length) : offG l (k + 1) = offG l k + lenG l k := sum_take_succ _ _ h
theorem offG_le (l : List Pc) (k : Nat) : offG l k ≤ l.length := by rw [← gls_sum l]; exact sum_take_le _ _
theorem lenG_pos (l : List Pc) (k : Nat) (h : k < (gls l).length) : 0 < lenG l k := gls_pos l _ (by
  unfold lenG
  rw [List.getD_eq_getElem?_getD, List.getElem?_eq_getElem h]
  exact List.getElem_mem h)
theorem offG_lt (l : List Pc) (k : Nat) (h : k < (gls l).length) : offG l k + lenG l k ≤ l.length := by rw [← offG_succ l k h]; exact offG_le _ _
theorem grpG (l : List Pc) (k : Nat) (h : k < (gls l).length) : (grps l).getD k [] = (l.drop (offG l k)).take (lenG l k) := by
  have := grps_at l (gls l) k 0 h
  rw [List.drop_zero, Nat.zero_add] at this
  exact this
theorem roomG_cons (a : List Pc) (gs : List (List Pc)) : roomG (a :: gs) = roomG [a] + roomG gs := by cases a <;> simp [roomG]
theorem roomG_snoc (gs : List (List Pc)) (g : List Pc) : roomG (gs ++ [g]) = roomG gs + roomG [g] := by
  induction gs with
  | nil => simp [roomG]
  | cons a gs ih => rw [List.cons_append, roomG_cons, ih, roomG_cons a gs, Nat.add_assoc]
theorem take_snoc_ {α : Type} (d : α) (l : List α) (k : Nat) (h : k < l.length) : l.take (k + 1) = l.take k ++ [l.getD k d] := by
  rw [List.take_succ_eq_append_getElem h]
  simp [List.getD_eq_getElem?_getD, h]
theorem room_step (l : List Pc) (k : Nat) (h : k < (gls l).length) : roomG ((grps l).take (k + 1)) = roomG ((grps l).take k) + (6 + (l.getD (offG l k) pc0).s.size) := by
  rw [take_snoc_ [] _ k (by rw [grps_len]; exact h), roomG_snoc, grpG l k h]
  have h1 := lenG_pos l k h
  have h2 := offG_lt l k h
  rw [List.drop_eq_getElem_cons (by omega), show lenG l k = (lenG l k - 1) + 1 by omega, List.take_succ_cons]
  simp [roomG, List.getD_eq_getElem?_getD, show offG l k < l.length by omega]
theorem gv_rd {W : World} {base : Nat} {v : Value} {xs : List Value} (h : OwnG W base v xs) : ∃ A cap, v = .slice A xs.length cap ∧ xs.length ≤ cap ∧ cap ≤ maxLen ∧ Rd W W.heap.size A xs := own_rd h
theorem rdG_cell {W : World} {B : Nat} {a : Addr} {xs : List Value} {u : Value} (h : Rd W B (some a) xs) (k : Nat) (hk : xs[k]? = some u) : W.cell? (a.add k) = some u := by
  obtain ⟨ad, e, _, hc⟩ := h (by intro h0; rw [h0] at hk; simp at hk)
  injection e with e
  subst e
  exact hc k u hk
set_option maxRecDepth 100000 in
set_option maxHeartbeats 2000000 in
theorem room_c (A : Option Addr) (c : Nat) (l : List Pc) (w : World) (hr : RdP w w.heap.size A l) (hc : l.length ≤ c) (h1 : l.length ≤ 100000) (hs : ∀ p ∈ l, p.s.size ≤ 1000000) :
    Calls Tryd.prog 50 #[.slice A l.length c] w fun e w' => e = .returned (.int .i64 (roomL l : Nat)) ∧ Below w.heap.size w w' := by
  have f1 : IntKind.i64.wrap (32 * (l.length : Int)) = 32 * (l.length : Int) := IntWalk.i64_in _ (by omega)
  have f2 : IntKind.i64.wrap (4 + 32 * (l.length : Int)) = 4 + 32 * (l.length : Int) := IntWalk.i64_in _ (by omega)
  rcases Nat.eq_zero_or_pos l.length with h0 | h0
  · obtain rfl : l = [] := List.eq_nil_of_length_eq_zero h0
    have HE := Lib.hid (show roomL [] = 4 by unfold roomL; rw [grps_nil]; rfl)
    rw [HE.out]
    clear f1 f2
    show Calls _ _ #[.slice A 0 c] _ _
    go_enter Tryd.func50, Tryd.ntmps50
    go_wp2_with (go_at_call 67; (refine (groups0_c A c w).mono ?_); rintro e W1 ⟨rfl, hb⟩; have HB := Lib.hid hb; clear hb)
    go_loopw [3, 13] (fun n i wr => n = .int .i64 4 ∧ i = .int .i64 0 ∧ wr = W1) (fun _ i _ => 0)
    case atStart => exact ⟨rfl, rfl, rfl⟩
    case round =>
      rename World => wr
      obtain ⟨rfl, rfl, rfl⟩ := hrel
      go_wp2_with fail
      go_ret
      exact ⟨rfl, HB.out⟩
  · obtain ⟨ad, rfl, hab, hat⟩ := hr.open_ h0
    have HAT := Lib.hid hat
    have HAB := Lib.hid hab
    have HGC := Lib.hid (groups_c ad c l w hat hab hc h0 h1)
    have HSZ := Lib.hid (show ∀ k, (l.getD k pc0).s.size ≤ 1000000 from fun k => by
      rcases Nat.lt_or_ge k l.length with h | h
      · exact hs _ (by simp [List.getD_eq_getElem?_getD, h])
      · rw [List.getD_eq_getElem?_getD, List.getElem?_eq_none h]; decide)
    have hgn : (gls l).length ≤ l.length := by
      have hgn : ∀ l : List Pc, (gls l).length ≤ l.length := grps_ind (by rw [gls_nil]; exact Nat.le_refl _) fun p l ih => by
        rw [gls_cons, List.length_cons, List.length_cons]
        rw [List.length_drop] at ih
        omega
      exact hgn l
    have HGV := Lib.hid (gv_len ad c 0 (gls l))
    have HGA := Lib.hid (fun k (h : k < (gls l).length) => gv_at ad c 0 (gls l) k h)
    have HST := Lib.hid (fun k (h : k < (gls l).length) => room_step l k h)
    have HLP := Lib.hid (fun k (h : k < (gls l).length) => lenG_pos l k h)
    have HOL := Lib.hid (fun k (h : k < (gls l).length) => offG_lt l k h)
    have HFIN := Lib.hid (show roomL l = 4 + 32 * l.length + roomG ((grps l).take (gls l).length) by unfold roomL; rw [← grps_len, List.take_length])
    have hbd : ∀ k, k ≤ (gls l).length → roomG ((grps l).take k) ≤ k * 1000100 := by
      intro k
      induction k with
      | zero => intro _; simp [roomG]
      | succ k ih =>
        intro hk
        have h2 := ih (by omega)
        have h3 := HSZ.out (offG l k)
        rw [room_step l k hk]
        omega
    have HBD := Lib.hid hbd
    clear hr hs hbd hat hab
    obtain ⟨r, hr⟩ : ∃ r, r = roomL l := ⟨_, rfl⟩
    rw [← hr]
    have HRR := Lib.hid hr
    clear hr
    go_enter Tryd.func50, Tryd.ntmps50
    go_wp2_with (go_at_call 67; (refine HGC.out.mono ?_); rintro e W1 ⟨v, rfl, ho, hb⟩; obtain ⟨A2, c2, rfl, _, _, r2⟩ := gv_rd ho; have HB := Lib.hid hb; have HR2 := Lib.hid r2; rw [HGV.out]; clear ho hb r2)
    have HATW := Lib.hid (HAT.out.below HB.out HAB.out)
    go_loop [3, 13] (fun n i => ∃ k : Nat, k ≤ (gls l).length ∧ i = .int .i64 k ∧ n = .int .i64 (4 + 32 * (l.length : Int) + (roomG ((grps l).take k) : Nat))) (fun _ i => (gls l).length - (intOf i).toNat)
    case atStart => exact ⟨0, Nat.zero_le _, rfl, by simp [roomG]⟩
    case round =>
      obtain ⟨k, hk, rfl, rfl⟩ := hrel
      by_cases hlt : k < (gls l).length
      · have p1 : (k : Int) < ((gls l).length : Int) := by omega
        have hga := HGA.out k hlt
        rw [Nat.zero_add] at hga
        have hrr := HR2.out
        obtain ⟨a2, rfl, _, _⟩ := hrr (by intro h; rw [h] at hga; simp at hga)
        have e0r := rdG_cell HR2.out k hga
        have hol := HOL.out k hlt
        have hlp := HLP.out k hlt
        have e1 := (HATW.out.piece (offG l k) (by omega)).ser
        have HSK := Lib.hid (HST.out k hlt)
        have hz := HSZ.out (offG l k)
        have hb0 := HBD.out k hk
        have e0 : W1.cell? (a2.add k) = some (.slice (some (ad.add (offG l k * 5))) (lenG l k) (c - offG l k)) := e0r
        clear hga e0r
        generalize l.getD (offG l k) pc0 = p at *
        generalize ad.add (offG l k * 5) = a' at *
        generalize lenG l k = m at *
        generalize c - offG l k = cc at *
        have p2 : (0 : Int) < (m : Int) := by omega
        generalize hq : roomG ((grps l).take k) = q at *
        have g1 : IntKind.i64.wrap (6 + (p.s.size : Int)) = 6 + (p.s.size : Int) := IntWalk.i64_in _ (by omega)
        have g2 : IntKind.i64.wrap (4 + 32 * (l.length : Int) + (q : Int) + (6 + (p.s.size : Int))) = 4 + 32 * (l.length : Int) + (q : Int) + (6 + (p.s.size : Int)) := IntWalk.i64_in _ (by omega)
        clear hq hol
        go_wp2_with fail
        go_round
        case rel => exact ⟨k + 1, by omega, by go_num, by rw [HSK.out]; go_num⟩
        case measure => simp [intOf]; omega
      · obtain rfl : k = (gls l).length := by omega
        have HEQ := Lib.hid (show (4 + 32 * (l.length : Int) + (roomG ((grps l).take (gls l).length) : Nat)) = ((r : Nat) : Int) by rw [HRR.out, HFIN.out]; omega)
        go_wp2_with fail
        go_ret
        exact ⟨by rw [← HEQ.out]; rfl, HB.out⟩
end Go.Proofs.YtaikejlcpnelpaaDoor
