/- Regions that draw their order and hold calls whose answers hang on the order (addresses of new memory): one walk of the text's order serves all. -/
import Derived.Test.YtlidfmbmlhaacaaKit
import Derived.Deep.MidRow
import Derived.BigQuiet
import Derived.StillTailTactics
namespace Go.Proofs.Ytlidfmbmlhaacaa
open Go.RowKit
set_option linter.unusedVariables false
/-- stands in the walk's frame for what a loud call handed back -/
def tok : Value := .bool true
def isTok (v : Value) : Bool := match v with | .bool true => true | _ => false
theorem isTok_eq {v : Value} (h : isTok v = true) : v = tok := by
  unfold isTok at h; split at h
  · rfl
  · cases h
section
variable {P : Program} {ops : Array Oper} {md : Region.Mode} {Z : World} {ls : List Tmp} {V : Tmp → Value → World → Prop}
def SimAt (ls : List Tmp) (V : Tmp → Value → World → Prop) (b a : Act) (w : World) (k : Tmp) : Prop :=
  (ls.contains k = true → b.eval (.tmp k) = tok → V k (a.eval (.tmp k)) w) ∧ (ls.contains k = false → a.eval (.tmp k) = b.eval (.tmp k))
structure Sim (ls : List Tmp) (V : Tmp → Value → World → Prop) (b a : Act) (w : World) : Prop where
  de : a.defers = b.defers
  sz : a.tmps.size = b.tmps.size
  at_ : ∀ k, SimAt ls V b a w k
def LoudUpon (P : Program) (ls : List Tmp) (V : Tmp → Value → World → Prop) (dst : Option Tmp) (w : World) (v : Value) : Result Next → Prop
  | .ok (.value u) w' => (w' = w ∧ u = v ∧ ∀ d, dst = some d → ls.contains d = false) ∨ (Below w.heap.size w w' ∧ ∀ d, dst = some d → ls.contains d = true ∧ V d u w')
  | .ok (.enter f args) w' => w' = w ∧ Calls P f args w (fun e w'' => ∃ u, e = .returned u ∧ Below w.heap.size w w'' ∧ ∀ d, dst = some d → (ls.contains d = true → V d u w'') ∧ (ls.contains d = false → u = v))
  | _ => False
def LQ (P : Program) (ops : Array Oper) (Z : World) (ls : List Tmp) (V : Tmp → Value → World → Prop) (o : Oper) (b : Act) (v : Value) : Prop :=
  ∀ a w, Below Z.heap.size Z w → (∀ k ∈ o.looksAt ops, SimAt ls V b a w k) → LoudUpon P ls V o.dst w v ((execOp a.eval o).run P w)
theorem LQ.put {o : Oper} {b : Act} {v u : Value} {dst : Option Tmp} (h : ∀ d, dst = some d → d ∉ o.looksAt ops) (hq : LQ P ops Z ls V o b v) : LQ P ops Z ls V o (b.put dst u) v := fun a w hC hs =>
  hq a w hC fun k hk => by
    have := hs k hk
    unfold SimAt at *
    rw [Act.eval_put (a := b) (dst := dst) (v := u) (x := .tmp k) (fun d hd he => h d hd (by injection he with he; rw [← he]; exact hk))] at this
    exact this
theorem LQ.unput {o : Oper} {b : Act} {v u : Value} {dst : Option Tmp} (h : ∀ d, dst = some d → d ∉ o.looksAt ops) (hq : LQ P ops Z ls V o (b.put dst u) v) : LQ P ops Z ls V o b v := fun a w hC hs =>
  hq a w hC fun k hk => by
    have := hs k hk
    unfold SimAt at *
    rw [Act.eval_put (a := b) (dst := dst) (v := u) (x := .tmp k) (fun d hd he => h d hd (by injection he with he; rw [← he]; exact hk))]
    exact this
def wpLoud (P : Program) (ops : Array Oper) (Z : World) (ls : List Tmp) (V : Tmp → Value → World → Prop) (Q : Act → Prop) : List Oper → Act → Prop
  | [], b => Q b
  | o :: rest, b => if Region.wanted o (yielded ops b.tmps) then ∃ v, LQ P ops Z ls V o b v ∧ wpLoud P ops Z ls V Q rest (b.put o.dst v) else wpLoud P ops Z ls V Q rest (b.put o.dst undef)
def lOp (P : Program) (ops : Array Oper) (Z : World) (ls : List Tmp) (V : Tmp → Value → World → Prop) (i : Nat) (K : Act → Prop) (b : Act) : Prop :=
  match ops[i]? with
  | none => K b
  | some o => if Region.wanted o (yielded ops b.tmps) then ∃ v, LQ P ops Z ls V o b v ∧ K (b.put o.dst v) else K (b.put o.dst undef)
theorem lOp_mono {i : Nat} {b : Act} {K K' : Act → Prop} (h : ∀ b, K b → K' b) (hh : lOp P ops Z ls V i K b) : lOp P ops Z ls V i K' b := by
  unfold lOp at *
  split
  · exact h _ (by simpa [*] using hh)
  · rename_i o ho
    simp only [ho] at hh
    split
    · rename_i hw; simp only [hw, if_true] at hh; obtain ⟨v, h1, h2⟩ := hh; exact ⟨v, h1, h _ h2⟩
    · rename_i hw; simp only [hw] at hh; exact h _ hh
def wpAnyL (P : Program) (md : Region.Mode) (ops : Array Oper) (Z : World) (ls : List Tmp) (V : Tmp → Value → World → Prop) (Q : Act → Prop) : Nat → Array Bool → Act → Prop
  | 0, listed, b => Region.ready md ops listed = [] ∧ Q b
  | fuel + 1, listed, b =>
    (Region.ready md ops listed = [] → Q b) ∧
    ∀ i ∈ Region.ready md ops listed, lOp P ops Z ls V i (wpAnyL P md ops Z ls V Q fuel (listed.setIfInBounds i true)) b
theorem eval_put_at (a : Act) (d : Tmp) (v : Value) (k : Tmp) : (a.put (some d) v).eval (.tmp k) = if k = d ∧ d < a.tmps.size then v else a.eval (.tmp k) := by
  by_cases h : k = d
  · subst h
    by_cases h2 : k < a.tmps.size
    · rw [if_pos ⟨rfl, h2⟩]
      simp [Act.put, Act.eval, h2]
    · rw [if_neg (fun h3 => h2 h3.2)]
      simp [Act.put, Act.eval, h2]
  · rw [if_neg (fun h3 => h h3.1)]
    exact Act.eval_put fun e he hx => h (by injection he with he; injection hx with hx; rw [hx, he])
theorem Sim.put {b a : Act} {w : World} (h : Sim ls V b a w) (dst : Option Tmp) (v u : Value) (hd : ∀ d, dst = some d → (ls.contains d = true → v = tok → V d u w) ∧ (ls.contains d = false → u = v)) : Sim ls V (b.put dst v) (a.put dst u) w := by
  cases dst with
  | none => exact h
  | some d =>
    obtain ⟨h1, h2⟩ := hd d rfl
    refine ⟨h.de, by simp [Act.put, h.sz], fun k => ?_⟩
    obtain ⟨s1, s2⟩ := h.at_ k
    unfold SimAt
    rw [eval_put_at, eval_put_at, h.sz]
    by_cases hk : k = d ∧ d < b.tmps.size
    · rw [if_pos hk, if_pos hk]
      obtain ⟨rfl, _⟩ := hk
      exact ⟨h1, h2⟩
    · rw [if_neg hk, if_neg hk]
      exact ⟨s1, s2⟩
theorem Sim.next {b a : Act} {w w' : World} (hV : ∀ k u w w', V k u w → Below w.heap.size w w' → V k u w') (h : Sim ls V b a w) (hb : Below w.heap.size w w') : Sim ls V b a w' :=
  ⟨h.de, h.sz, fun k => ⟨fun h1 h2 => hV k _ _ _ ((h.at_ k).1 h1 h2) hb, (h.at_ k).2⟩⟩
def guardsB (ops : Array Oper) (ls : List Tmp) : Bool := ops.all fun o => match o.guard with
  | none => true
  | some (g, _) => match (ops[g]?).bind (·.dst) with
    | some d => !ls.contains d
    | none => true
theorem wanted_sim {b a : Act} {w : World} (h : Sim ls V b a w) (hG : guardsB ops ls = true) {o : Oper} {i : Nat} (ho : ops[i]? = some o) : Region.wanted o (yielded ops a.tmps) = Region.wanted o (yielded ops b.tmps) := by
  unfold Region.wanted
  cases hg : o.guard with
  | none => rfl
  | some gw =>
    obtain ⟨g, want⟩ := gw
    have hi : i < ops.size := by
      rcases Nat.lt_or_ge i ops.size with h1 | h1
      · exact h1
      · rw [Array.getElem?_eq_none h1] at ho; cases ho
    have he : ops[i] = o := by rw [Array.getElem?_eq_getElem hi] at ho; injection ho
    have h1 := (Array.all_eq_true.1 hG) i hi
    rw [he, hg] at h1
    have hy : yielded ops a.tmps g = yielded ops b.tmps g := by
      unfold yielded
      cases ht : (ops[g]?).bind (·.dst) with
      | none => rfl
      | some t =>
        simp only [ht] at h1
        have h2 := (h.at_ t).2 (by simpa using h1)
        have h3 : a.tmps[t]? = b.tmps[t]? := by
          rcases Nat.lt_or_ge t b.tmps.size with h4 | h4
          · have h5 : t < a.tmps.size := by rw [h.sz]; exact h4
            simp only [Act.eval] at h2
            rw [Array.getElem?_eq_getElem h4, Array.getElem?_eq_getElem h5]
            simpa [h4, h5] using h2
          · rw [Array.getElem?_eq_none h4, Array.getElem?_eq_none (by rw [h.sz]; exact h4)]
        simp [h3]
    simp only [hy]
theorem loudStep (hV : ∀ k u w w', V k u w → Below w.heap.size w w' → V k u w') (hG : guardsB ops ls = true) {Q' : Exit → Act → World → Prop} {K : Act → Prop} {K' : Act → World → Prop} (ih : ∀ b a w, Below Z.heap.size Z w → Sim ls V b a w → K b → K' a w)
    {i : Nat} {b a : Act} {w : World} (hC : Below Z.heap.size Z w) (hs : Sim ls V b a w) (h1 : lOp P ops Z ls V i K b) : wpOp P ops Q' i K' a w := by
  unfold lOp at h1
  unfold wpOp
  cases ho : ops[i]? with
  | none => simp only [ho] at h1 ⊢; exact ih _ _ _ hC hs h1
  | some o =>
    simp only [ho] at h1 ⊢
    rw [wanted_sim hs hG ho]
    split
    · rename_i hw
      simp only [hw, if_true] at h1
      obtain ⟨v, hq, hK⟩ := h1
      refine .inl ?_
      have h2 := hq a w hC (fun k _ => hs.at_ k)
      unfold Oper.wp
      generalize (execOp a.eval o).run P w = r at *
      cases r with
      | ok n w' =>
        cases n <;> simp only [LoudUpon] at h2 <;> simp only [Oper.upon]
        case value u =>
          rcases h2 with ⟨rfl, rfl, h3⟩ | ⟨hb, h3⟩
          · exact ih _ _ _ hC (hs.put _ _ _ fun d hd => ⟨fun h4 => (by rw [h3 d hd] at h4; cases h4), fun _ => rfl⟩) hK
          · exact ih _ _ _ (hC.trans (hb.mono hC.size)) ((hs.next hV hb).put _ _ _ fun d hd => ⟨fun _ _ => (h3 d hd).2, fun h4 => (by rw [(h3 d hd).1] at h4; cases h4)⟩) hK
        case enter f args =>
          obtain ⟨rfl, hc⟩ := h2
          refine hc.mono ?_
          rintro e w'' ⟨u, rfl, hb, hd⟩
          exact ih _ _ _ (hC.trans (hb.mono hC.size)) ((hs.next hV hb).put _ _ _ fun d h3 => ⟨fun h4 _ => (hd d h3).1 h4, (hd d h3).2⟩) hK
      | halt x w' => simp only [LoudUpon] at h2
    · rename_i hw
      simp only [hw] at h1
      exact ih _ _ _ hC (hs.put _ _ _ fun d hd => ⟨fun _ h4 => (by cases h4), fun _ => rfl⟩) h1
theorem wpAny_of_loud (hV : ∀ k u w w', V k u w → Below w.heap.size w w' → V k u w') (hG : guardsB ops ls = true) {Q : Act → Prop} {Q' : Exit → Act → World → Prop} (hQ : ∀ b a w, Below Z.heap.size Z w → Sim ls V b a w → Q b → Q' .normal a w) :
    ∀ (fuel : Nat) (listed : Array Bool) (b a : Act) (w : World), Below Z.heap.size Z w → Sim ls V b a w → wpAnyL P md ops Z ls V Q fuel listed b → wpAny P md ops Q' fuel listed a w
  | 0, _, _, _, _, hC, hs, h => ⟨h.1, hQ _ _ _ hC hs h.2⟩
  | fuel + 1, listed, b, a, w, hC, hs, h => ⟨fun h0 => hQ _ _ _ hC hs (h.1 h0), fun i hi => loudStep hV hG (fun b a w => wpAny_of_loud hV hG hQ fuel _ b a w) hC hs (h.2 i hi)⟩
def YieldsL (P : Program) (ops : Array Oper) (Z : World) (ls : List Tmp) (V : Tmp → Value → World → Prop) (o : Oper) (v : Value) (b : Act) : Prop :=
  (Region.wanted o (yielded ops b.tmps) = true ∧ LQ P ops Z ls V o b v) ∨ (Region.wanted o (yielded ops b.tmps) = false ∧ v = undef)
theorem YieldsL.lOp {i : Nat} {o : Oper} {v : Value} {b : Act} (hi : ops[i]? = some o) (hy : YieldsL P ops Z ls V o v b) {K : Act → Prop} (h : K (b.put o.dst v)) : lOp P ops Z ls V i K b := by
  unfold Go.Proofs.Ytlidfmbmlhaacaa.lOp
  simp only [hi]
  rcases hy with ⟨hw, hv⟩ | ⟨hw, rfl⟩
  · simp only [hw, if_true]; exact ⟨v, hv, h⟩
  · simp only [hw, Bool.false_eq_true, if_false]; exact h
theorem yieldsL_of {i : Nat} {o : Oper} {b : Act} {K : Act → Prop} (hi : ops[i]? = some o) (h : lOp P ops Z ls V i K b) : ∃ v, YieldsL P ops Z ls V o v b ∧ K (b.put o.dst v) := by
  unfold lOp at h
  simp only [hi] at h
  by_cases hw : Region.wanted o (yielded ops b.tmps) = true
  · simp only [hw, if_true] at h
    obtain ⟨v, h1, h2⟩ := h
    exact ⟨v, .inl ⟨hw, h1⟩, h2⟩
  · simp only [hw] at h
    exact ⟨undef, .inr ⟨by simpa using hw, rfl⟩, h⟩
theorem lOp_put {j : Nat} {oi oj : Oper} {v : Value} (hj : ops[j]? = some oj) (hap : oi.apart ops oj = true) {K : Act → Prop} {b : Act}
    (hy : YieldsL P ops Z ls V oi v b) (h : lOp P ops Z ls V j K (b.put oi.dst v)) : lOp P ops Z ls V j (fun b' => YieldsL P ops Z ls V oi v b' ∧ K (b'.put oi.dst v)) b := by
  obtain ⟨h1, h2, h3⟩ := Oper.apart_spec hap
  have keep : ∀ (b : Act), YieldsL P ops Z ls V oi v b → ∀ u, YieldsL P ops Z ls V oi v (b.put oj.dst u) := fun b hy u => by
    unfold YieldsL at *
    rw [wanted_put oi b oj.dst u h3]
    exact hy.imp (fun h => ⟨h.1, h.2.put h3⟩) id
  unfold lOp at *
  simp only [hj] at *
  rw [wanted_put oj b oi.dst v h1] at h
  split
  · rename_i hw
    simp only [hw, if_true] at h
    obtain ⟨u, hu, hn⟩ := h
    exact ⟨u, hu.unput h1, keep b hy u, by rw [← Act.put_comm b v u h2]; exact hn⟩
  · rename_i hw
    simp only [hw] at h
    exact ⟨keep b hy _, by rw [← Act.put_comm b v undef h2]; exact h⟩
theorem wpAnyL_first {Q : Act → Prop} {i : Nat} {oi : Oper} {v : Value} (hi : ops[i]? = some oi) :
    ∀ (fuel : Nat) (listed : Array Bool) (b : Act),
      (∀ j oj, ops[j]? = some oj → j ≠ i → listed.getD j true = false → (∀ e ∈ oj.after, Region.binds md e = true → e.on ≠ i) → oi.apart ops oj = true) →
      i ∈ Region.ready md ops listed → YieldsL P ops Z ls V oi v b →
      wpAnyL P md ops Z ls V Q fuel (listed.setIfInBounds i true) (b.put oi.dst v) → wpAnyL P md ops Z ls V Q (fuel + 1) listed b := by
  intro fuel
  induction fuel with
  | zero =>
    intro listed b _ hr hy H
    refine ⟨fun h => (by rw [h] at hr; cases hr), fun j hj => ?_⟩
    by_cases hji : j = i
    · subst hji; exact hy.lOp hi H
    · have := ready_mono hj hji
      rw [H.1] at this
      cases this
  | succ fuel ih =>
    intro listed b hfree hr hy H
    refine ⟨fun h => (by rw [h] at hr; cases hr), fun j hj => ?_⟩
    by_cases hji : j = i
    · subst hji; exact hy.lOp hi H
    · have h1 := H.2 j (ready_mono hj hji)
      obtain ⟨hjun, oj, hoj, hall⟩ := mem_ready.1 hj
      have hnot : ∀ e ∈ oj.after, Region.binds md e = true → e.on ≠ i := fun e he hb heq => by
        have h1 := hall e he hb
        have h0 := (mem_ready.1 hr).1
        rw [heq] at h1
        rcases Nat.lt_or_ge i listed.size with h' | h'
        · simp [h'] at h0 h1; rw [h0] at h1; cases h1
        · simp [Array.getElem?_eq_none h'] at h1
      have h2 := lOp_put hoj (hfree j oj hoj hji hjun hnot) hy h1
      have hfree' : ∀ k ok, ops[k]? = some ok → k ≠ i → (listed.setIfInBounds j true).getD k true = false →
          (∀ e ∈ ok.after, Region.binds md e = true → e.on ≠ i) → oi.apart ops ok = true := fun k ok hk hki hun hno => by
        refine hfree k ok hk hki ?_ hno
        by_cases hjk : j = k
        · subst hjk; exact hjun
        · rw [getD_set_ne true hjk] at hun; exact hun
      refine lOp_mono (fun b' h3 => ih (listed.setIfInBounds j true) b' hfree' (ready_mono hr (Ne.symm hji)) h3.1 ?_) h2
      rw [Array.setIfInBounds_comm _ _ hji]
      exact h3.2
theorem wpAnyL_lex {Q : Act → Prop} : ∀ (l : List Oper) (k : Nat) (listed : Array Bool) (b : Act), (∀ j, l[j]? = ops[k + j]?) →
    Region.lexFrom md ops l.length k listed = true → wpLoud P ops Z ls V Q l b → wpAnyL P md ops Z ls V Q l.length listed b
  | [], _, _, _, _, hB, h => ⟨by simpa [Region.lexFrom] using hB, h⟩
  | o :: l, k, listed, b, hl, hB, h => by
    have h0 : ops[k]? = some o := by simpa using (hl 0).symm
    simp only [List.length_cons, Region.lexFrom, Bool.and_eq_true] at hB
    obtain ⟨⟨hr, hf⟩, hB'⟩ := hB
    have hst : lOp P ops Z ls V k (wpLoud P ops Z ls V Q l) b := by unfold lOp; simp only [h0]; exact h
    obtain ⟨v, hy, hK⟩ := yieldsL_of h0 hst
    exact wpAnyL_first h0 l.length listed b (Region.free_spec h0 hf) (by simpa using hr) hy
      (wpAnyL_lex l (k + 1) _ _ (fun j => by have := hl (j + 1); simpa [Nat.add_assoc, Nat.add_comm 1 j] using this) hB' hK)
def idleB (a : Act) (ls : List Tmp) : Bool := ls.all fun k => !isTok (a.eval (.tmp k))
theorem idle_sim {a : Act} {w : World} (hI : idleB a ls = true) : Sim ls V a a w := by
  refine ⟨rfl, rfl, fun k => ⟨fun h1 h2 => ?_, fun _ => rfl⟩⟩
  have h3 := List.all_eq_true.1 hI k (by simpa using h1)
  rw [h2] at h3
  cases h3
theorem wp_region_loud (Z : World) (ls : List Tmp) (V : Tmp → Value → World → Prop) {id : Nat} {Q : Exit → Act → World → Prop} {a : Act} {w : World} {l : List Oper} (hm : P.follows .mixedOrders = true) (hB : Region.lexB .any l.toArray = true) (hG : guardsB l.toArray ls = true) (hI : idleB a ls = true)
    (hV : ∀ k u w w', V k u w → Below w.heap.size w w' → V k u w') (hC : Below Z.heap.size Z w.drew)
    (h : wpLoud P l.toArray Z ls V (fun b => ∀ a' w', Below Z.heap.size Z w' → Sim ls V b a' w' → Q .normal a' w') l a) : (Code.region id l.toArray true).wp P Q a w := by
  simp only [Region.lexB, Bool.and_eq_true] at hB
  refine wp_region_any hm (wpAny_of_loud (Q := fun b => ∀ a' w', Below Z.heap.size Z w' → Sim ls V b a' w' → Q .normal a' w') hV hG (fun b a w h1 h2 h3 => h3 a w h1 h2) _ _ a a _ hC (idle_sim hI) ?_)
  · have := wpAnyL_lex (P := P) (Z := Z) (ls := ls) (V := V) (md := .any) l 0 (Array.replicate l.toArray.size false) a (by simp) (by simpa using hB.2) h
    simpa using this
/-! the head of a region so, its tail as it stands -/
def wpAnyLT (P : Program) (md : Region.Mode) (ops : Array Oper) (Z : World) (ls : List Tmp) (V : Tmp → Value → World → Prop) (n : Nat) (L : Array Bool → Act → Prop) : Nat → Array Bool → Act → Prop
  | 0, listed, b => L listed b
  | f + 1, listed, b => Region.ready md ops listed ≠ [] ∧ ∀ i ∈ Region.ready md ops listed, i < n ∧ lOp P ops Z ls V i (wpAnyLT P md ops Z ls V n L f (listed.setIfInBounds i true)) b
theorem wpAny_of_loudHead {n g : Nat} (hV : ∀ k u w w', V k u w → Below w.heap.size w w' → V k u w') (hG : guardsB ops ls = true) {L : Array Bool → Act → Prop} {Q' : Exit → Act → World → Prop} (hL : ∀ listed b a w, Below Z.heap.size Z w → Sim ls V b a w → L listed b → wpAny P md ops Q' g listed a w) :
    ∀ (f : Nat) (listed : Array Bool) (b a : Act) (w : World), Below Z.heap.size Z w → Sim ls V b a w → wpAnyLT P md ops Z ls V n L f listed b → wpAny P md ops Q' (f + g) listed a w
  | 0, listed, b, a, w, hC, hs, h => by rw [Nat.zero_add]; exact hL _ _ _ _ hC hs h
  | f + 1, listed, b, a, w, hC, hs, h => by
    rw [show f + 1 + g = (f + g) + 1 by omega]
    exact ⟨fun h0 => absurd h0 h.1, fun i hi => loudStep hV hG (fun b a w => wpAny_of_loudHead hV hG hL f _ b a w) hC hs (h.2 i hi).2⟩
theorem wpAnyLT_first {n i : Nat} {oi : Oper} {v : Value} {L : Array Bool → Act → Prop} (hi : ops[i]? = some oi)
    (hs : Region.sinkB md ops n = true) (hc : Region.chainB md ops n = true) (hn : n < ops.size) (hin : i < n)
    (hdone : ∀ listed b, L listed b → ∀ j ∈ Region.ready md ops listed, n ≤ j) :
    ∀ (f : Nat) (listed : Array Bool) (b : Act), HeadInv md ops n listed →
      (∀ j oj, ops[j]? = some oj → j ≠ i → listed.getD j true = false → (∀ e ∈ oj.after, Region.binds md e = true → e.on ≠ i) → oi.apart ops oj = true) →
      i ∈ Region.ready md ops listed → YieldsL P ops Z ls V oi v b →
      wpAnyLT P md ops Z ls V n L f (listed.setIfInBounds i true) (b.put oi.dst v) → wpAnyLT P md ops Z ls V n L (f + 1) listed b := by
  intro f
  induction f with
  | zero =>
    intro listed b inv _ hr hy H
    have hun := (mem_ready.1 hr).1
    refine ⟨fun h => (by rw [h] at hr; cases hr), fun j hj => ?_⟩
    have hjn : j < n := by
      rcases Nat.lt_or_ge j n with h | h
      · exact h
      · exact absurd hj (tail_waits hs hc hn inv _ i rfl hin hun j h)
    refine ⟨hjn, ?_⟩
    by_cases hji : j = i
    · subst hji; exact hy.lOp hi H
    · have := hdone _ _ H j (ready_mono hj hji)
      omega
  | succ f ih =>
    intro listed b inv hfree hr hy H
    have hun := (mem_ready.1 hr).1
    refine ⟨fun h => (by rw [h] at hr; cases hr), fun j hj => ?_⟩
    have hjn : j < n := by
      rcases Nat.lt_or_ge j n with h | h
      · exact h
      · exact absurd hj (tail_waits hs hc hn inv _ i rfl hin hun j h)
    refine ⟨hjn, ?_⟩
    by_cases hji : j = i
    · subst hji; exact hy.lOp hi H
    · have h1 := (H.2 j (ready_mono hj hji)).2
      obtain ⟨hjun, oj, hoj, hall⟩ := mem_ready.1 hj
      have hnot : ∀ e ∈ oj.after, Region.binds md e = true → e.on ≠ i := fun e he hb heq => by
        have h1 := hall e he hb
        rw [heq, getD_both hun] at h1
        cases h1
      have h2 := lOp_put hoj (hfree j oj hoj hji hjun hnot) hy h1
      have hfree' : ∀ k ok, ops[k]? = some ok → k ≠ i → (listed.setIfInBounds j true).getD k true = false →
          (∀ e ∈ ok.after, Region.binds md e = true → e.on ≠ i) → oi.apart ops ok = true := fun k ok hk hki hun hno => by
        refine hfree k ok hk hki ?_ hno
        by_cases hjk : j = k
        · subst hjk; exact hjun
        · rw [getD_set_ne true hjk] at hun; exact hun
      refine lOp_mono (fun b' h3 => ih (listed.setIfInBounds j true) b' (inv.set hj hjn) hfree' (ready_mono hr (Ne.symm hji)) h3.1 ?_) h2
      rw [Array.setIfInBounds_comm _ _ hji]
      exact h3.2
theorem wpAnyLT_lex {n g : Nat} {Lq : Act → Prop} (hs : Region.sinkB md ops n = true) (hc : Region.chainB md ops n = true) (hn : n < ops.size) :
    ∀ (l : List Oper) (k : Nat) (listed : Array Bool) (b : Act), (∀ j, j < l.length → l[j]? = ops[k + j]?) → k + l.length = n → HeadInv md ops n listed →
    Region.lexHead md ops g l.length k listed = true → wpLoud P ops Z ls V Lq l b →
    wpAnyLT P md ops Z ls V n (fun listed' b' => Region.seqB md ops g n listed' = true ∧ Lq b') l.length listed b
  | [], k, listed, b, _, hk, _, hB, h => by
    have : k = n := by simpa using hk
    subst this
    exact ⟨by simpa [Region.lexHead] using hB, h⟩
  | o :: l, k, listed, b, hl, hk, inv, hB, h => by
    have h0 : ops[k]? = some o := by simpa using (hl 0 (by simp)).symm
    simp only [List.length_cons, Region.lexHead, Bool.and_eq_true] at hB
    obtain ⟨⟨hr, hf⟩, hB'⟩ := hB
    have hkn : k < n := by simp only [List.length_cons] at hk; omega
    have hr' : k ∈ Region.ready md ops listed := by simpa using hr
    have hst : lOp P ops Z ls V k (wpLoud P ops Z ls V Lq l) b := by unfold lOp; simp only [h0]; exact h
    obtain ⟨v, hy, hK⟩ := yieldsL_of h0 hst
    exact wpAnyLT_first h0 hs hc hn hkn (fun listed' a' hL => seqB_ready hL.1) l.length listed b inv (Region.free_spec h0 hf) hr' hy
      (wpAnyLT_lex hs hc hn l (k + 1) _ _ (fun j hj => by have := hl (j + 1) (by simp; omega); simpa [Nat.add_assoc, Nat.add_comm 1 j] using this) (by simp only [List.length_cons] at hk; omega) (inv.set hr' hkn) hB' hK)
theorem wp_region_loudTail (n : Nat) (Z : World) (ls : List Tmp) (V : Tmp → Value → World → Prop) {id : Nat} {Q : Exit → Act → World → Prop} {a : Act} {w : World} {l : List Oper} (hm : P.follows .mixedOrders = true) (hB : Region.lexTailB .any l.toArray n = true) (hG : guardsB l.toArray ls = true) (hI : idleB a ls = true)
    (hV : ∀ k u w w', V k u w → Below w.heap.size w w' → V k u w') (hC : Below Z.heap.size Z w.drew)
    (h : wpLoud P l.toArray Z ls V (fun b => ∀ a' w', Below Z.heap.size Z w' → Sim ls V b a' w' → wpList P l.toArray Q (l.drop n) a' w') (l.take n) a) : (Code.region id l.toArray true).wp P Q a w := by
  simp only [Region.lexTailB, Bool.and_eq_true, decide_eq_true_eq] at hB
  obtain ⟨⟨⟨⟨hsel, hn⟩, hs⟩, hc⟩, hlex⟩ := hB
  have hn' : n < l.length := by simpa using hn
  have htl : (l.take n).length = n := by simp; omega
  have hdl : (l.drop n).length = l.toArray.size - n := by simp
  have inv0 : HeadInv .any l.toArray n (Array.replicate l.toArray.size false) :=
    ⟨by simp, fun j oj _ hl => (by rw [getD_replicate_false] at hl; cases hl), fun t _ ht => getD_in (by simpa using ht) (getD_replicate_false _ _)⟩
  have H := wpAnyLT_lex (P := P) (Z := Z) (ls := ls) (V := V) (md := .any) (g := l.toArray.size - n) hs hc hn (l.take n) 0 _ a (fun j hj => by
    have hj' : j < n := by rw [htl] at hj; exact hj
    simp [hj']) (by simpa using htl) inv0 (by rw [htl]; exact hlex) h
  refine wp_region_any hm ?_
  have := wpAny_of_loudHead (Q' := Q) (g := l.toArray.size - n) hV hG (fun listed b' a' w' hC' hS hL => by
    have := wpAny_of_seq (md := .any) (Q' := Q) (l.drop n) n listed a' w' (fun j => by simp [List.getElem?_drop]) (by rw [hdl]; exact hL.1) (hL.2 a' w' hC' hS)
    rwa [hdl] at this) _ _ a a w.drew hC (idle_sim hI) H
  rw [htl, show n + (l.toArray.size - n) = l.toArray.size by omega] at this
  exact this
/-- the frame with what the loud calls handed back -/
def fill (g : Tmp → Value) : List Tmp → Act → Act
  | [], b => b
  | k :: ks, b => fill g ks (b.put (some k) (g k))
theorem fill_size (g : Tmp → Value) : ∀ (ls : List Tmp) (b : Act), (fill g ls b).tmps.size = b.tmps.size ∧ (fill g ls b).defers = b.defers
  | [], b => ⟨rfl, rfl⟩
  | k :: ks, b => by
    have := fill_size g ks (b.put (some k) (g k))
    exact ⟨this.1.trans (by simp [Act.put]), this.2⟩
theorem fill_eval (g : Tmp → Value) (k : Tmp) : ∀ (ls : List Tmp) (b : Act), k < b.tmps.size → (fill g ls b).eval (.tmp k) = if ls.contains k then g k else b.eval (.tmp k)
  | [], b, _ => rfl
  | j :: ks, b, hk => by
    have h1 := fill_eval g k ks (b.put (some j) (g j)) (by simpa [Act.put] using hk)
    show (fill g ks (b.put (some j) (g j))).eval (.tmp k) = _
    rw [h1, eval_put_at]
    by_cases h2 : k = j
    · subst h2
      rw [if_pos (c := k = k ∧ _) ⟨rfl, hk⟩]
      simp
    · rw [if_neg (c := k = j ∧ _) (fun h => h2 h.1)]
      have h3 : (j :: ks).contains k = ks.contains k := by
        rw [List.contains_cons]
        have h4 : (k == j) = false := by simpa using h2
        rw [h4]; rfl
      rw [h3]
theorem Sim.filled {b a : Act} {w : World} (h : Sim ls V b a w) : a = fill (fun k => a.eval (.tmp k)) ls b := by
  obtain ⟨s1, s2⟩ := fill_size (fun k => a.eval (.tmp k)) ls b
  have ht : a.tmps = (fill (fun k => a.eval (.tmp k)) ls b).tmps := by
    apply Array.ext
    · rw [s1, h.sz]
    · intro k h1 h2
      have hk : k < b.tmps.size := by rw [← h.sz]; exact h1
      have h3 := fill_eval (fun k => a.eval (.tmp k)) k ls b hk
      have e1 : a.tmps[k] = a.eval (.tmp k) := by simp [Act.eval, h1]
      have e2 : ∀ (c : Act) (h : k < c.tmps.size), c.tmps[k] = c.eval (.tmp k) := fun c h => by simp [Act.eval, h]
      rw [e1, e2, h3]
      cases hc : ls.contains k
      · exact (h.at_ k).2 hc
      · rfl
  have hd : a.defers = (fill (fun k => a.eval (.tmp k)) ls b).defers := by rw [s2, h.de]
  generalize fill (fun k => a.eval (.tmp k)) ls b = c at *
  cases a
  cases c
  simp only at ht hd
  rw [ht, hd]
theorem wpLoud_end {Φ : Act → World → Prop} {b : Act} (need : List Tmp) (hn : (need.all fun k => ls.contains k && isTok (b.eval (.tmp k))) = true)
    (h : ∀ (g : Tmp → Value) (x : Ext Z), (∀ k ∈ need, V k (g k) x.wd) → Φ (fill g ls b) x.wd) : wpLoud P ops Z ls V (fun b => ∀ a' w', Below Z.heap.size Z w' → Sim ls V b a' w' → Φ a' w') [] b := by
  intro a' w' hb hs
  rw [hs.filled]
  refine h _ ⟨w', hb⟩ fun k hk => ?_
  have h1 := List.all_eq_true.1 hn k hk
  rw [Bool.and_eq_true] at h1
  exact (hs.at_ k).1 h1.1 (isTok_eq h1.2)
/-! steps -/
variable {Q : Act → Prop} {b : Act} {o : Oper} {rest : List Oper}
theorem wpLoud_skip (hw : Region.wanted o (yielded ops b.tmps) = false) (b' : Act) (hb : b.put o.dst undef = b') (h : wpLoud P ops Z ls V Q rest b') : wpLoud P ops Z ls V Q (o :: rest) b := by
  subst hb
  unfold wpLoud
  rw [if_neg (by rw [hw]; exact Bool.false_ne_true)]
  exact h
def plainOp : Op → Bool
  | .move _ | .assign _ | .pick _ _ _ | .load _ _ | .binOp _ _ _ _ _ | .unOp _ _ _ | .convert _ _ _ | .fieldAddr _ _ _ | .indexAddr _ _ _ | .extract _ _ | .slice _ _ _ _ _ | .index _ _ _ | .field _ _ _ => true
  | _ => false
def quietB (ops : Array Oper) (ls : List Tmp) (o : Oper) : Bool := (o.looksAt ops).all (fun k => !ls.contains k) && (match o.dst with | some d => !ls.contains d | none => true)
theorem notEnter {α : Type} (s : Sem α) (g : α → Value) (w w' : World) (f : FuncId) (args : Array Value) : ((do pure (.value (g (← s))) : Sem Next)).run P w ≠ .ok (.enter f args) w' := by
  rw [Sem.run_bind]
  cases s.run P w with
  | ok u w1 => simp [Result.andThen]
  | halt x w1 => simp [Result.andThen]
theorem plain_run {ρ : Operand → Value} (hp : plainOp o.op = true) (w w' : World) (f : FuncId) (args : Array Value) : (execOp ρ o).run P w ≠ .ok (.enter f args) w' := by
  obtain ⟨dst, op, type, pos, after, guard⟩ := o
  cases op <;> simp only [plainOp] at hp <;> (try cases hp)
  case move x => simp [execOp]
  case assign x => simp [execOp]
  case pick c x y => exact notEnter (asBool (ρ c)) (fun t => if t then ρ x else ρ y) w w' f args
  all_goals exact notEnter _ (fun t => t) w w' f args
theorem simAt_eval {b a : Act} {w : World} (hq : quietB ops ls o = true) (hs : ∀ k ∈ o.looksAt ops, SimAt ls V b a w k) : ∀ x ∈ o.op.operands, a.eval x = b.eval x := fun x hx => by
  unfold quietB at hq
  rw [Bool.and_eq_true] at hq
  cases x with
  | tmp k =>
    have hk : k ∈ o.looksAt ops := List.mem_append_left _ (List.mem_filterMap.2 ⟨.tmp k, by simpa using hx, rfl⟩)
    have h1 := List.all_eq_true.1 hq.1 k hk
    exact (hs k hk).2 (by simpa using h1)
  | const v => rfl
  | global v => rfl
  | func v => rfl
theorem quietB_dst (hq : quietB ops ls o = true) : ∀ d, o.dst = some d → ls.contains d = false := fun d hd => by
  unfold quietB at hq
  rw [Bool.and_eq_true, hd] at hq
  simpa using hq.2
theorem wpLoud_val (hw : Region.wanted o (yielded ops b.tmps) = true) (hq : quietB ops ls o = true) (hsel : ∀ cs t, o.op ≠ .select cs t) (v : Value) (hr : ∀ x : Ext Z, (execOp b.eval o).run P x.wd = .ok (.value v) x.wd)
    (b' : Act) (hb : b.put o.dst v = b') (h : wpLoud P ops Z ls V Q rest b') : wpLoud P ops Z ls V Q (o :: rest) b := by
  subst hb
  unfold wpLoud
  rw [if_pos hw]
  refine ⟨v, fun a w hC hs => ?_, h⟩
  rw [execOp_congr o hsel (simAt_eval hq hs), show (execOp b.eval o).run P w = .ok (.value v) w from hr ⟨w, hC⟩]
  exact .inl ⟨rfl, rfl, quietB_dst hq⟩
theorem wpLoud_plain (hw : Region.wanted o (yielded ops b.tmps) = true) (hq : quietB ops ls o = true) (hp : plainOp o.op = true)
    (h : ∀ K : Act → Prop, (∀ b, wpLoud P ops Z ls V Q rest b → K b) → o.quiet P b (fun w => ∃ x : Ext Z, w = x.wd) K) : wpLoud P ops Z ls V Q (o :: rest) b := by
  unfold wpLoud
  rw [if_pos hw]
  obtain ⟨v, h1, h2⟩ := h _ (fun _ h => h)
  refine ⟨v, fun a w hC hs => ?_, h2⟩
  have hsel : ∀ cs t, o.op ≠ .select cs t := fun cs t he => by rw [he] at hp; cases hp
  have h3 := h1 w ⟨⟨w, hC⟩, rfl⟩
  rw [execOp_congr o hsel (simAt_eval hq hs)]
  unfold Oper.quietAt at h3
  have hne := plain_run (P := P) (ρ := b.eval) hp w
  have hnk : ∀ w', (execOp b.eval o).run P w ≠ .ok .skip w' := by
    obtain ⟨dst, op, type, pos, after, guard⟩ := o
    have key : ∀ {α : Type} (s : Sem α) (g : α → Value) (w' : World), ((do pure (.value (g (← s))) : Sem Next)).run P w ≠ .ok .skip w' := by
      intro α s g w'
      rw [Sem.run_bind]
      cases s.run P w with
      | ok u w1 => simp [Result.andThen]
      | halt x w1 => simp [Result.andThen]
    intro w'
    cases op <;> simp only [plainOp] at hp <;> (try cases hp)
    case move x => simp [execOp]
    case assign x => simp [execOp]
    case pick c x y => exact key (asBool (b.eval c)) (fun t => if t then b.eval x else b.eval y) w'
    all_goals exact key _ (fun t => t) w'
  generalize (execOp b.eval o).run P w = r at *
  cases r with
  | ok n w' =>
    cases n <;> simp only [Oper.quietUpon] at h3
    case value u => exact .inl ⟨h3.1, h3.2, quietB_dst hq⟩
    case skip => exact absurd rfl (hnk w')
    case enter f args => exact absurd rfl (hne w' f args)
  | halt x w' => simp only [Oper.quietUpon] at h3
theorem wpLoud_load (hw : Region.wanted o (yielded ops b.tmps) = true) (hq : quietB ops ls o = true) (ty : TypeId) (x : Operand) (ho : o.op = .load ty x) (n off : Nat) (hx : b.eval x = .pointer (some ⟨n, off, none⟩)) (cs : List Value) (d : TypeDesc)
    (hc : ∀ y : Ext Z, y.wd.rangeAt n off cs) (hu : P.underlying ty = some d) (hd : d.isRow = true) (hi : (P.info? ty).map (·.size) = some cs.length)
    (b' : Act) (hb : b.put o.dst (.agg cs.toArray) = b') (h : wpLoud P ops Z ls V Q rest b') : wpLoud P ops Z ls V Q (o :: rest) b :=
  wpLoud_val hw hq (fun cs t he => by rw [ho] at he; cases he) _ (fun y => by
    unfold execOp
    simp only [ho, hx, Instr.loadAt, Instr.sureAddr, Sem.run_bind, Sem.run_pure, Result.andThen_ok, run_loadVar_mid y.wd n off ty cs d (hc y) hu hd hi]) b' hb h
/-- an operation that makes memory -/
theorem wpLoud_make (hw : Region.wanted o (yielded ops b.tmps) = true) (hsel : ∀ cs t, o.op ≠ .select cs t) (hq : ((o.looksAt ops).all fun k => !ls.contains k) = true) (d : Tmp) (hd : o.dst = some d) (hl : ls.contains d = true)
    (hr : ∀ x : Ext Z, ∃ u w', (execOp b.eval o).run P x.wd = .ok (.value u) w' ∧ Below x.wd.heap.size x.wd w' ∧ V d u w')
    (b' : Act) (hb : b.put o.dst tok = b') (h : wpLoud P ops Z ls V Q rest b') : wpLoud P ops Z ls V Q (o :: rest) b := by
  subst hb
  unfold wpLoud
  rw [if_pos hw]
  refine ⟨tok, fun a w hC hs => ?_, h⟩
  have he : ∀ x ∈ o.op.operands, a.eval x = b.eval x := fun x hx => by
    cases x with
    | tmp k =>
      have hk : k ∈ o.looksAt ops := List.mem_append_left _ (List.mem_filterMap.2 ⟨.tmp k, by simpa using hx, rfl⟩)
      exact (hs k hk).2 (by simpa using List.all_eq_true.1 hq k hk)
    | const v => rfl
    | global v => rfl
    | func v => rfl
  obtain ⟨u, w', h1, h2, h3⟩ := hr ⟨w, hC⟩
  rw [execOp_congr o hsel he, show (execOp b.eval o).run P w = .ok (.value u) w' from h1]
  exact .inr ⟨h2, fun d' hd' => by rw [hd] at hd'; injection hd' with hd'; subst hd'; exact ⟨hl, h3⟩⟩
/-- what a loud call handed back, moved -/
theorem wpLoud_move (hw : Region.wanted o (yielded ops b.tmps) = true) (k d : Tmp) (ho : o.op = .assign (.tmp k) ∨ o.op = .move (.tmp k)) (hd : o.dst = some d) (hk : ls.contains k = true) (hl : ls.contains d = true) (ht : isTok (b.eval (.tmp k)) = true) (hV : ∀ u w, V k u w → V d u w)
    (b' : Act) (hb : b.put o.dst tok = b') (h : wpLoud P ops Z ls V Q rest b') : wpLoud P ops Z ls V Q (o :: rest) b := by
  subst hb
  unfold wpLoud
  rw [if_pos hw]
  refine ⟨tok, fun a w hC hs => ?_, h⟩
  have hrun : (execOp a.eval o).run P w = .ok (.value (a.eval (.tmp k))) w := by
    rcases ho with ho | ho <;> · unfold execOp; simp only [ho, Sem.run_pure]
  have hm : k ∈ o.looksAt ops := by
    unfold Oper.looksAt
    rcases ho with ho | ho <;> · rw [ho]; simp [Op.operands]
  have hv := (hs k hm).1 hk (isTok_eq ht)
  rw [hrun]
  exact .inr ⟨Below.refl _ _, fun d' hd' => by rw [hd] at hd'; injection hd' with hd'; subst hd'; exact ⟨hl, hV _ _ hv⟩⟩
theorem wpLoud_loadB (hw : Region.wanted o (yielded ops b.tmps) = true) (hq : quietB ops ls o = true) (ty : TypeId) (x : Operand) (ho : o.op = .load ty x) (n off : Nat) (hx : b.eval x = .pointer (some ⟨n, off, none⟩)) (cs : Array Value) (d : TypeDesc)
    (hc : ∀ y : Ext Z, y.wd.rangeAt n off cs.toList) (hu : P.underlying ty = some d) (hd : d.isRow = true) (hi : (P.info? ty).map (·.size) = some cs.toList.length)
    (b' : Act) (hb : b.put o.dst (.agg cs) = b') (h : wpLoud P ops Z ls V Q rest b') : wpLoud P ops Z ls V Q (o :: rest) b :=
  wpLoud_load hw hq ty x ho n off hx cs.toList d hc hu hd hi b' (by rw [Array.toArray_toList]; exact hb) h
def over (ls : List Tmp) (b : Act) (g : Tmp → Value) : Operand → Value
  | .tmp k => if ls.contains k then g k else b.eval (.tmp k)
  | x => b.eval x
/-- a call, by its contract -/
theorem wpLoud_call (d : Tmp) (hd : o.dst = some d) (need : List Tmp) (v : Value) (f : FuncId) (args : (Tmp → Value) → Array Value) (hw : Region.wanted o (yielded ops b.tmps) = true) (hsel : ∀ cs t, o.op ≠ .select cs t)
    (hn : (need.all fun k => ls.contains k && ((o.looksAt ops).contains k && isTok (b.eval (.tmp k)))) = true)
    (hrun : ∀ (g : Tmp → Value) w, (execOp (over ls b g) o).run P w = .ok (.enter f (args g)) w)
    (hc : ∀ (g : Tmp → Value) (x : Ext Z), (∀ k ∈ need, V k (g k) x.wd) → Calls P f (args g) x.wd fun e w'' => ∃ u, e = .returned u ∧ Below x.wd.heap.size x.wd w'' ∧ (if ls.contains d then V d u w'' else u = v))
    (b' : Act) (hb : b.put o.dst v = b') (h : wpLoud P ops Z ls V Q rest b') : wpLoud P ops Z ls V Q (o :: rest) b := by
  subst hb
  unfold wpLoud
  rw [if_pos hw]
  refine ⟨v, fun a w hC hs => ?_, h⟩
  have he : ∀ x ∈ o.op.operands, a.eval x = over ls b (fun k => a.eval (.tmp k)) x := fun x hx => by
    cases x with
    | tmp k =>
      have hk : k ∈ o.looksAt ops := List.mem_append_left _ (List.mem_filterMap.2 ⟨.tmp k, by simpa using hx, rfl⟩)
      show _ = if ls.contains k then _ else _
      cases hcn : ls.contains k
      · exact (hs k hk).2 hcn
      · rfl
    | const v => rfl
    | global v => rfl
    | func v => rfl
  rw [execOp_congr o hsel he, hrun]
  refine ⟨rfl, (hc _ ⟨w, hC⟩ fun k hk => ?_).mono ?_⟩
  · have h1 := List.all_eq_true.1 hn k hk
    simp only [Bool.and_eq_true] at h1
    exact (hs k (by simpa using h1.2.1)).1 h1.1 (isTok_eq h1.2.2)
  · rintro e w'' ⟨u, h1, h2, h3⟩
    refine ⟨u, h1, h2, fun d' hd' => ?_⟩
    rw [hd] at hd'
    injection hd' with hd'
    subst hd'
    exact ⟨fun h4 => by rwa [if_pos h4] at h3, fun h4 => by rwa [if_neg (by rw [h4]; exact Bool.false_ne_true)] at h3⟩
end
end Go.Proofs.Ytlidfmbmlhaacaa
