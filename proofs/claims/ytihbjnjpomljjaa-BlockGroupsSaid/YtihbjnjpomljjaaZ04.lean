/- Parts, one behind the other: LouG Df2G Srt1 Mv3 Mm0 Mm1 Pa1 Pa2 Bk1 Po1 Bk5 Dl2. -/
import Derived.Test.YtihbjnjpomljjaaZ03
import Derived.Deep.MidRow
import Derived.BigQuiet
import Derived.StillTailTactics
import Derived.Shelf.SlSortCmp.WholeK
import Derived.Shelf.SlSortCmp.NoneTotal
import Derived.WalkMore
import Derived.Laws.StructEq
/- Regions that draw their order and hold calls whose answers hang on the order (addresses of new memory): one walk of the text's order serves all. -/
namespace Go.Proofs.Ytihbjnjpomljjaa
set_option maxRecDepth 100000
open Go.RowKit
set_option linter.unusedVariables false
section
variable {P : Program} {ops : Array Oper} {md : Region.Mode} {Z : World} {ls : List Tmp} {V : Tmp → Value → World → Prop}
def SimAt_g (ls : List Tmp) (V : Tmp → Value → World → Prop) (b a : Act) (w : World) (k : Tmp) : Prop :=
  (ls.contains k = true → b.eval (.tmp k) = tok → V k (a.eval (.tmp k)) w) ∧ (ls.contains k = false → a.eval (.tmp k) = b.eval (.tmp k))
structure Sim_g (ls : List Tmp) (V : Tmp → Value → World → Prop) (b a : Act) (w : World) : Prop where
  de : a.defers = b.defers
  sz : a.tmps.size = b.tmps.size
  at_ : ∀ k, SimAt_g ls V b a w k
def LoudUpon_g (P : Program) (ls : List Tmp) (V : Tmp → Value → World → Prop) (dst : Option Tmp) (w : World) (v : Value) : Result Next → Prop
  | .ok (.value u) w' => (w' = w ∧ u = v ∧ ∀ d, dst = some d → ls.contains d = false) ∨ (Gro w.heap.size w w' ∧ ∀ d, dst = some d → ls.contains d = true ∧ V d u w')
  | .ok (.enter f args) w' => w' = w ∧ Calls P f args w (fun e w'' => ∃ u, e = .returned u ∧ Gro w.heap.size w w'' ∧ ∀ d, dst = some d → (ls.contains d = true → V d u w'') ∧ (ls.contains d = false → u = v))
  | _ => False
def LQ_g (P : Program) (ops : Array Oper) (Z : World) (ls : List Tmp) (V : Tmp → Value → World → Prop) (o : Oper) (b : Act) (v : Value) : Prop :=
  ∀ a w, Gro Z.heap.size Z w → (∀ k ∈ o.looksAt ops, SimAt_g ls V b a w k) → LoudUpon_g P ls V o.dst w v ((execOp a.eval o).run P w)
theorem LQ_g.put {o : Oper} {b : Act} {v u : Value} {dst : Option Tmp} (h : ∀ d, dst = some d → d ∉ o.looksAt ops) (hq : LQ_g P ops Z ls V o b v) : LQ_g P ops Z ls V o (b.put dst u) v := fun a w hC hs =>
  hq a w hC fun k hk => by
    have := hs k hk
    unfold SimAt_g at *
    rw [Act.eval_put (a := b) (dst := dst) (v := u) (x := .tmp k) (fun d hd he => h d hd (by injection he with he; rw [← he]; exact hk))] at this
    exact this
theorem LQ_g.unput {o : Oper} {b : Act} {v u : Value} {dst : Option Tmp} (h : ∀ d, dst = some d → d ∉ o.looksAt ops) (hq : LQ_g P ops Z ls V o (b.put dst u) v) : LQ_g P ops Z ls V o b v := fun a w hC hs =>
  hq a w hC fun k hk => by
    have := hs k hk
    unfold SimAt_g at *
    rw [Act.eval_put (a := b) (dst := dst) (v := u) (x := .tmp k) (fun d hd he => h d hd (by injection he with he; rw [← he]; exact hk))]
    exact this
def wpLoud_g (P : Program) (ops : Array Oper) (Z : World) (ls : List Tmp) (V : Tmp → Value → World → Prop) (Q : Act → Prop) : List Oper → Act → Prop
  | [], b => Q b
  | o :: rest, b => if Region.wanted o (yielded ops b.tmps) then ∃ v, LQ_g P ops Z ls V o b v ∧ wpLoud_g P ops Z ls V Q rest (b.put o.dst v) else wpLoud_g P ops Z ls V Q rest (b.put o.dst undef)
def lOp_g (P : Program) (ops : Array Oper) (Z : World) (ls : List Tmp) (V : Tmp → Value → World → Prop) (i : Nat) (K : Act → Prop) (b : Act) : Prop :=
  match ops[i]? with
  | none => K b
  | some o => if Region.wanted o (yielded ops b.tmps) then ∃ v, LQ_g P ops Z ls V o b v ∧ K (b.put o.dst v) else K (b.put o.dst undef)
theorem lOp_mono_g {i : Nat} {b : Act} {K K' : Act → Prop} (h : ∀ b, K b → K' b) (hh : lOp_g P ops Z ls V i K b) : lOp_g P ops Z ls V i K' b := by
  unfold lOp_g at *
  split
  · exact h _ (by simpa [*] using hh)
  · rename_i o ho
    simp only [ho] at hh
    split
    · rename_i hw; simp only [hw, if_true] at hh; obtain ⟨v, h1, h2⟩ := hh; exact ⟨v, h1, h _ h2⟩
    · rename_i hw; simp only [hw] at hh; exact h _ hh
def wpAnyL_g (P : Program) (md : Region.Mode) (ops : Array Oper) (Z : World) (ls : List Tmp) (V : Tmp → Value → World → Prop) (Q : Act → Prop) : Nat → Array Bool → Act → Prop
  | 0, listed, b => Region.ready md ops listed = [] ∧ Q b
  | fuel + 1, listed, b =>
    (Region.ready md ops listed = [] → Q b) ∧
    ∀ i ∈ Region.ready md ops listed, lOp_g P ops Z ls V i (wpAnyL_g P md ops Z ls V Q fuel (listed.setIfInBounds i true)) b
theorem eval_put_at_g (a : Act) (d : Tmp) (v : Value) (k : Tmp) : (a.put (some d) v).eval (.tmp k) = if k = d ∧ d < a.tmps.size then v else a.eval (.tmp k) := by
  by_cases h : k = d
  · subst h
    by_cases h2 : k < a.tmps.size
    · rw [if_pos ⟨rfl, h2⟩]
      simp [Act.put, Act.eval, h2]
    · rw [if_neg (fun h3 => h2 h3.2)]
      simp [Act.put, Act.eval, h2]
  · rw [if_neg (fun h3 => h h3.1)]
    exact Act.eval_put fun e he hx => h (by injection he with he; injection hx with hx; rw [hx, he])
theorem Sim_g.put {b a : Act} {w : World} (h : Sim_g ls V b a w) (dst : Option Tmp) (v u : Value) (hd : ∀ d, dst = some d → (ls.contains d = true → v = tok → V d u w) ∧ (ls.contains d = false → u = v)) : Sim_g ls V (b.put dst v) (a.put dst u) w := by
  cases dst with
  | none => exact h
  | some d =>
    obtain ⟨h1, h2⟩ := hd d rfl
    refine ⟨h.de, by simp [Act.put, h.sz], fun k => ?_⟩
    obtain ⟨s1, s2⟩ := h.at_ k
    unfold SimAt_g
    rw [eval_put_at_g, eval_put_at_g, h.sz]
    by_cases hk : k = d ∧ d < b.tmps.size
    · rw [if_pos hk, if_pos hk]
      obtain ⟨rfl, _⟩ := hk
      exact ⟨h1, h2⟩
    · rw [if_neg hk, if_neg hk]
      exact ⟨s1, s2⟩
theorem Sim_g.next {b a : Act} {w w' : World} (hV : ∀ k u w w', V k u w → Gro w.heap.size w w' → V k u w') (h : Sim_g ls V b a w) (hb : Gro w.heap.size w w') : Sim_g ls V b a w' :=
  ⟨h.de, h.sz, fun k => ⟨fun h1 h2 => hV k _ _ _ ((h.at_ k).1 h1 h2) hb, (h.at_ k).2⟩⟩
def guardsB_g (ops : Array Oper) (ls : List Tmp) : Bool := ops.all fun o => match o.guard with
  | none => true
  | some (g, _) => match (ops[g]?).bind (·.dst) with
    | some d => !ls.contains d
    | none => true
theorem wanted_sim_g {b a : Act} {w : World} (h : Sim_g ls V b a w) (hG : guardsB_g ops ls = true) {o : Oper} {i : Nat} (ho : ops[i]? = some o) : Region.wanted o (yielded ops a.tmps) = Region.wanted o (yielded ops b.tmps) := by
  unfold Region.wanted
  cases hg : o.guard with
  | none => rfl
  | some gw =>
    obtain ⟨g, want⟩ := gw
    have hi : i < ops.size := by
      rcases Nat.lt_or_ge i ops.size with h1 | h1
      · exact h1
      · rw [Array.getElem?_eq_none h1] at ho; cases ho
    have he : ops[i] = o := by rw [Array.getElem?_eq_getElem hi] at ho; injection ho
    have h1 := (Array.all_eq_true.1 hG) i hi
    rw [he, hg] at h1
    have hy : yielded ops a.tmps g = yielded ops b.tmps g := by
      unfold yielded
      cases ht : (ops[g]?).bind (·.dst) with
      | none => rfl
      | some t =>
        simp only [ht] at h1
        have h2 := (h.at_ t).2 (by simpa using h1)
        have h3 : a.tmps[t]? = b.tmps[t]? := by
          rcases Nat.lt_or_ge t b.tmps.size with h4 | h4
          · have h5 : t < a.tmps.size := by rw [h.sz]; exact h4
            simp only [Act.eval] at h2
            rw [Array.getElem?_eq_getElem h4, Array.getElem?_eq_getElem h5]
            simpa [h4, h5] using h2
          · rw [Array.getElem?_eq_none h4, Array.getElem?_eq_none (by rw [h.sz]; exact h4)]
        simp [h3]
    simp only [hy]
theorem loudStep_g (hV : ∀ k u w w', V k u w → Gro w.heap.size w w' → V k u w') (hG : guardsB_g ops ls = true) {Q' : Exit → Act → World → Prop} {K : Act → Prop} {K' : Act → World → Prop} (ih : ∀ b a w, Gro Z.heap.size Z w → Sim_g ls V b a w → K b → K' a w)
    {i : Nat} {b a : Act} {w : World} (hC : Gro Z.heap.size Z w) (hs : Sim_g ls V b a w) (h1 : lOp_g P ops Z ls V i K b) : wpOp P ops Q' i K' a w := by
  unfold lOp_g at h1
  unfold wpOp
  cases ho : ops[i]? with
  | none => simp only [ho] at h1 ⊢; exact ih _ _ _ hC hs h1
  | some o =>
    simp only [ho] at h1 ⊢
    rw [wanted_sim_g hs hG ho]
    split
    · rename_i hw
      simp only [hw, if_true] at h1
      obtain ⟨v, hq, hK⟩ := h1
      refine .inl ?_
      have h2 := hq a w hC (fun k _ => hs.at_ k)
      unfold Oper.wp
      generalize (execOp a.eval o).run P w = r at *
      cases r with
      | ok n w' =>
        cases n <;> simp only [LoudUpon_g] at h2 <;> simp only [Oper.upon]
        case value u =>
          rcases h2 with ⟨rfl, rfl, h3⟩ | ⟨hb, h3⟩
          · exact ih _ _ _ hC (hs.put _ _ _ fun d hd => ⟨fun h4 => (by rw [h3 d hd] at h4; cases h4), fun _ => rfl⟩) hK
          · exact ih _ _ _ (hC.trans (hb.mono hC.size)) ((hs.next hV hb).put _ _ _ fun d hd => ⟨fun _ _ => (h3 d hd).2, fun h4 => (by rw [(h3 d hd).1] at h4; cases h4)⟩) hK
        case enter f args =>
          obtain ⟨rfl, hc⟩ := h2
          refine hc.mono ?_
          rintro e w'' ⟨u, rfl, hb, hd⟩
          exact ih _ _ _ (hC.trans (hb.mono hC.size)) ((hs.next hV hb).put _ _ _ fun d h3 => ⟨fun h4 _ => (hd d h3).1 h4, (hd d h3).2⟩) hK
      | halt x w' => simp only [LoudUpon_g] at h2
    · rename_i hw
      simp only [hw] at h1
      exact ih _ _ _ hC (hs.put _ _ _ fun d hd => ⟨fun _ h4 => (by cases h4), fun _ => rfl⟩) h1
theorem wpAny_of_loud_g (hV : ∀ k u w w', V k u w → Gro w.heap.size w w' → V k u w') (hG : guardsB_g ops ls = true) {Q : Act → Prop} {Q' : Exit → Act → World → Prop} (hQ : ∀ b a w, Gro Z.heap.size Z w → Sim_g ls V b a w → Q b → Q' .normal a w) :
    ∀ (fuel : Nat) (listed : Array Bool) (b a : Act) (w : World), Gro Z.heap.size Z w → Sim_g ls V b a w → wpAnyL_g P md ops Z ls V Q fuel listed b → wpAny P md ops Q' fuel listed a w
  | 0, _, _, _, _, hC, hs, h => ⟨h.1, hQ _ _ _ hC hs h.2⟩
  | fuel + 1, listed, b, a, w, hC, hs, h => ⟨fun h0 => hQ _ _ _ hC hs (h.1 h0), fun i hi => loudStep_g hV hG (fun b a w => wpAny_of_loud_g hV hG hQ fuel _ b a w) hC hs (h.2 i hi)⟩
def YieldsL_g (P : Program) (ops : Array Oper) (Z : World) (ls : List Tmp) (V : Tmp → Value → World → Prop) (o : Oper) (v : Value) (b : Act) : Prop :=
  (Region.wanted o (yielded ops b.tmps) = true ∧ LQ_g P ops Z ls V o b v) ∨ (Region.wanted o (yielded ops b.tmps) = false ∧ v = undef)
theorem YieldsL_g.lOp {i : Nat} {o : Oper} {v : Value} {b : Act} (hi : ops[i]? = some o) (hy : YieldsL_g P ops Z ls V o v b) {K : Act → Prop} (h : K (b.put o.dst v)) : lOp_g P ops Z ls V i K b := by
  unfold Go.Proofs.Ytihbjnjpomljjaa.lOp_g
  simp only [hi]
  rcases hy with ⟨hw, hv⟩ | ⟨hw, rfl⟩
  · simp only [hw, if_true]; exact ⟨v, hv, h⟩
  · simp only [hw, Bool.false_eq_true, if_false]; exact h
theorem yieldsL_of_g {i : Nat} {o : Oper} {b : Act} {K : Act → Prop} (hi : ops[i]? = some o) (h : lOp_g P ops Z ls V i K b) : ∃ v, YieldsL_g P ops Z ls V o v b ∧ K (b.put o.dst v) := by
  unfold lOp_g at h
  simp only [hi] at h
  by_cases hw : Region.wanted o (yielded ops b.tmps) = true
  · simp only [hw, if_true] at h
    obtain ⟨v, h1, h2⟩ := h
    exact ⟨v, .inl ⟨hw, h1⟩, h2⟩
  · simp only [hw] at h
    exact ⟨undef, .inr ⟨by simpa using hw, rfl⟩, h⟩
theorem lOp_put_g {j : Nat} {oi oj : Oper} {v : Value} (hj : ops[j]? = some oj) (hap : oi.apart ops oj = true) {K : Act → Prop} {b : Act}
    (hy : YieldsL_g P ops Z ls V oi v b) (h : lOp_g P ops Z ls V j K (b.put oi.dst v)) : lOp_g P ops Z ls V j (fun b' => YieldsL_g P ops Z ls V oi v b' ∧ K (b'.put oi.dst v)) b := by
  obtain ⟨h1, h2, h3⟩ := Oper.apart_spec hap
  have keep : ∀ (b : Act), YieldsL_g P ops Z ls V oi v b → ∀ u, YieldsL_g P ops Z ls V oi v (b.put oj.dst u) := fun b hy u => by
    unfold YieldsL_g at *
    rw [wanted_put oi b oj.dst u h3]
    exact hy.imp (fun h => ⟨h.1, h.2.put h3⟩) id
  unfold lOp_g at *
  simp only [hj] at *
  rw [wanted_put oj b oi.dst v h1] at h
  split
  · rename_i hw
    simp only [hw, if_true] at h
    obtain ⟨u, hu, hn⟩ := h
    exact ⟨u, hu.unput h1, keep b hy u, by rw [← Act.put_comm b v u h2]; exact hn⟩
  · rename_i hw
    simp only [hw] at h
    exact ⟨keep b hy _, by rw [← Act.put_comm b v undef h2]; exact h⟩
theorem wpAnyL_first_g {Q : Act → Prop} {i : Nat} {oi : Oper} {v : Value} (hi : ops[i]? = some oi) :
    ∀ (fuel : Nat) (listed : Array Bool) (b : Act),
      (∀ j oj, ops[j]? = some oj → j ≠ i → listed.getD j true = false → (∀ e ∈ oj.after, Region.binds md e = true → e.on ≠ i) → oi.apart ops oj = true) →
      i ∈ Region.ready md ops listed → YieldsL_g P ops Z ls V oi v b →
      wpAnyL_g P md ops Z ls V Q fuel (listed.setIfInBounds i true) (b.put oi.dst v) → wpAnyL_g P md ops Z ls V Q (fuel + 1) listed b := by
  intro fuel
  induction fuel with
  | zero =>
    intro listed b _ hr hy H
    refine ⟨fun h => (by rw [h] at hr; cases hr), fun j hj => ?_⟩
    by_cases hji : j = i
    · subst hji; exact hy.lOp hi H
    · have := ready_mono hj hji
      rw [H.1] at this
      cases this
  | succ fuel ih =>
    intro listed b hfree hr hy H
    refine ⟨fun h => (by rw [h] at hr; cases hr), fun j hj => ?_⟩
    by_cases hji : j = i
    · subst hji; exact hy.lOp hi H
    · have h1 := H.2 j (ready_mono hj hji)
      obtain ⟨hjun, oj, hoj, hall⟩ := mem_ready.1 hj
      have hnot : ∀ e ∈ oj.after, Region.binds md e = true → e.on ≠ i := fun e he hb heq => by
        have h1 := hall e he hb
        have h0 := (mem_ready.1 hr).1
        rw [heq] at h1
        rcases Nat.lt_or_ge i listed.size with h' | h'
        · simp [h'] at h0 h1; rw [h0] at h1; cases h1
        · simp [Array.getElem?_eq_none h'] at h1
      have h2 := lOp_put_g hoj (hfree j oj hoj hji hjun hnot) hy h1
      have hfree' : ∀ k ok, ops[k]? = some ok → k ≠ i → (listed.setIfInBounds j true).getD k true = false →
          (∀ e ∈ ok.after, Region.binds md e = true → e.on ≠ i) → oi.apart ops ok = true := fun k ok hk hki hun hno => by
        refine hfree k ok hk hki ?_ hno
        by_cases hjk : j = k
        · subst hjk; exact hjun
        · rw [getD_set_ne true hjk] at hun; exact hun
      refine lOp_mono_g (fun b' h3 => ih (listed.setIfInBounds j true) b' hfree' (ready_mono hr (Ne.symm hji)) h3.1 ?_) h2
      rw [Array.setIfInBounds_comm _ _ hji]
      exact h3.2
theorem wpAnyL_lex_g {Q : Act → Prop} : ∀ (l : List Oper) (k : Nat) (listed : Array Bool) (b : Act), (∀ j, l[j]? = ops[k + j]?) →
    Region.lexFrom md ops l.length k listed = true → wpLoud_g P ops Z ls V Q l b → wpAnyL_g P md ops Z ls V Q l.length listed b
  | [], _, _, _, _, hB, h => ⟨by simpa [Region.lexFrom] using hB, h⟩
  | o :: l, k, listed, b, hl, hB, h => by
    have h0 : ops[k]? = some o := by simpa using (hl 0).symm
    simp only [List.length_cons, Region.lexFrom, Bool.and_eq_true] at hB
    obtain ⟨⟨hr, hf⟩, hB'⟩ := hB
    have hst : lOp_g P ops Z ls V k (wpLoud_g P ops Z ls V Q l) b := by unfold lOp_g; simp only [h0]; exact h
    obtain ⟨v, hy, hK⟩ := yieldsL_of_g h0 hst
    exact wpAnyL_first_g h0 l.length listed b (Region.free_spec h0 hf) (by simpa using hr) hy
      (wpAnyL_lex_g l (k + 1) _ _ (fun j => by have := hl (j + 1); simpa [Nat.add_assoc, Nat.add_comm 1 j] using this) hB' hK)
def idleB_g (a : Act) (ls : List Tmp) : Bool := ls.all fun k => !isTok (a.eval (.tmp k))
theorem idle_sim_g {a : Act} {w : World} (hI : idleB_g a ls = true) : Sim_g ls V a a w := by
  refine ⟨rfl, rfl, fun k => ⟨fun h1 h2 => ?_, fun _ => rfl⟩⟩
  have h3 := List.all_eq_true.1 hI k (by simpa using h1)
  rw [h2] at h3
  cases h3
theorem wp_region_loud_g (Z : World) (ls : List Tmp) (V : Tmp → Value → World → Prop) {id : Nat} {Q : Exit → Act → World → Prop} {a : Act} {w : World} {l : List Oper} (hm : P.follows .mixedOrders = true) (hB : Region.lexB .any l.toArray = true) (hG : guardsB_g l.toArray ls = true) (hI : idleB_g a ls = true)
    (hV : ∀ k u w w', V k u w → Gro w.heap.size w w' → V k u w') (hC : Gro Z.heap.size Z w.drew)
    (h : wpLoud_g P l.toArray Z ls V (fun b => ∀ a' w', Gro Z.heap.size Z w' → Sim_g ls V b a' w' → Q .normal a' w') l a) : (Code.region id l.toArray true).wp P Q a w := by
  simp only [Region.lexB, Bool.and_eq_true] at hB
  refine wp_region_any hm (wpAny_of_loud_g (Q := fun b => ∀ a' w', Gro Z.heap.size Z w' → Sim_g ls V b a' w' → Q .normal a' w') hV hG (fun b a w h1 h2 h3 => h3 a w h1 h2) _ _ a a _ hC (idle_sim_g hI) ?_)
  · have := wpAnyL_lex_g (P := P) (Z := Z) (ls := ls) (V := V) (md := .any) l 0 (Array.replicate l.toArray.size false) a (by simp) (by simpa using hB.2) h
    simpa using this
/-! the head of a region so, its tail as it stands -/
def wpAnyLT_g (P : Program) (md : Region.Mode) (ops : Array Oper) (Z : World) (ls : List Tmp) (V : Tmp → Value → World → Prop) (n : Nat) (L : Array Bool → Act → Prop) : Nat → Array Bool → Act → Prop
  | 0, listed, b => L listed b
  | f + 1, listed, b => Region.ready md ops listed ≠ [] ∧ ∀ i ∈ Region.ready md ops listed, i < n ∧ lOp_g P ops Z ls V i (wpAnyLT_g P md ops Z ls V n L f (listed.setIfInBounds i true)) b
theorem wpAny_of_loudHead_g {n g : Nat} (hV : ∀ k u w w', V k u w → Gro w.heap.size w w' → V k u w') (hG : guardsB_g ops ls = true) {L : Array Bool → Act → Prop} {Q' : Exit → Act → World → Prop} (hL : ∀ listed b a w, Gro Z.heap.size Z w → Sim_g ls V b a w → L listed b → wpAny P md ops Q' g listed a w) :
    ∀ (f : Nat) (listed : Array Bool) (b a : Act) (w : World), Gro Z.heap.size Z w → Sim_g ls V b a w → wpAnyLT_g P md ops Z ls V n L f listed b → wpAny P md ops Q' (f + g) listed a w
  | 0, listed, b, a, w, hC, hs, h => by rw [Nat.zero_add]; exact hL _ _ _ _ hC hs h
  | f + 1, listed, b, a, w, hC, hs, h => by
    rw [show f + 1 + g = (f + g) + 1 by omega]
    exact ⟨fun h0 => absurd h0 h.1, fun i hi => loudStep_g hV hG (fun b a w => wpAny_of_loudHead_g hV hG hL f _ b a w) hC hs (h.2 i hi).2⟩
theorem wpAnyLT_first_g {n i : Nat} {oi : Oper} {v : Value} {L : Array Bool → Act → Prop} (hi : ops[i]? = some oi)
    (hs : Region.sinkB md ops n = true) (hc : Region.chainB md ops n = true) (hn : n < ops.size) (hin : i < n)
    (hdone : ∀ listed b, L listed b → ∀ j ∈ Region.ready md ops listed, n ≤ j) :
    ∀ (f : Nat) (listed : Array Bool) (b : Act), HeadInv md ops n listed →
      (∀ j oj, ops[j]? = some oj → j ≠ i → listed.getD j true = false → (∀ e ∈ oj.after, Region.binds md e = true → e.on ≠ i) → oi.apart ops oj = true) →
      i ∈ Region.ready md ops listed → YieldsL_g P ops Z ls V oi v b →
      wpAnyLT_g P md ops Z ls V n L f (listed.setIfInBounds i true) (b.put oi.dst v) → wpAnyLT_g P md ops Z ls V n L (f + 1) listed b := by
  intro f
  induction f with
  | zero =>
    intro listed b inv _ hr hy H
    have hun := (mem_ready.1 hr).1
    refine ⟨fun h => (by rw [h] at hr; cases hr), fun j hj => ?_⟩
    have hjn : j < n := by
      rcases Nat.lt_or_ge j n with h | h
      · exact h
      · exact absurd hj (tail_waits hs hc hn inv _ i rfl hin hun j h)
    refine ⟨hjn, ?_⟩
    by_cases hji : j = i
    · subst hji; exact hy.lOp hi H
    · have := hdone _ _ H j (ready_mono hj hji)
      omega
  | succ f ih =>
    intro listed b inv hfree hr hy H
    have hun := (mem_ready.1 hr).1
    refine ⟨fun h => (by rw [h] at hr; cases hr), fun j hj => ?_⟩
    have hjn : j < n := by
      rcases Nat.lt_or_ge j n with h | h
      · exact h
      · exact absurd hj (tail_waits hs hc hn inv _ i rfl hin hun j h)
    refine ⟨hjn, ?_⟩
    by_cases hji : j = i
    · subst hji; exact hy.lOp hi H
    · have h1 := (H.2 j (ready_mono hj hji)).2
      obtain ⟨hjun, oj, hoj, hall⟩ := mem_ready.1 hj
      have hnot : ∀ e ∈ oj.after, Region.binds md e = true → e.on ≠ i := fun e he hb heq => by
        have h1 := hall e he hb
        rw [heq, getD_both hun] at h1
        cases h1
      have h2 := lOp_put_g hoj (hfree j oj hoj hji hjun hnot) hy h1
      have hfree' : ∀ k ok, ops[k]? = some ok → k ≠ i → (listed.setIfInBounds j true).getD k true = false →
          (∀ e ∈ ok.after, Region.binds md e = true → e.on ≠ i) → oi.apart ops ok = true := fun k ok hk hki hun hno => by
        refine hfree k ok hk hki ?_ hno
        by_cases hjk : j = k
        · subst hjk; exact hjun
        · rw [getD_set_ne true hjk] at hun; exact hun
      refine lOp_mono_g (fun b' h3 => ih (listed.setIfInBounds j true) b' (inv.set hj hjn) hfree' (ready_mono hr (Ne.symm hji)) h3.1 ?_) h2
      rw [Array.setIfInBounds_comm _ _ hji]
      exact h3.2
theorem wpAnyLT_lex_g {n g : Nat} {Lq : Act → Prop} (hs : Region.sinkB md ops n = true) (hc : Region.chainB md ops n = true) (hn : n < ops.size) :
    ∀ (l : List Oper) (k : Nat) (listed : Array Bool) (b : Act), (∀ j, j < l.length → l[j]? = ops[k + j]?) → k + l.length = n → HeadInv md ops n listed →
    Region.lexHead md ops g l.length k listed = true → wpLoud_g P ops Z ls V Lq l b →
    wpAnyLT_g P md ops Z ls V n (fun listed' b' => Region.seqB md ops g n listed' = true ∧ Lq b') l.length listed b
  | [], k, listed, b, _, hk, _, hB, h => by
    have : k = n := by simpa using hk
    subst this
    exact ⟨by simpa [Region.lexHead] using hB, h⟩
  | o :: l, k, listed, b, hl, hk, inv, hB, h => by
    have h0 : ops[k]? = some o := by simpa using (hl 0 (by simp)).symm
    simp only [List.length_cons, Region.lexHead, Bool.and_eq_true] at hB
    obtain ⟨⟨hr, hf⟩, hB'⟩ := hB
    have hkn : k < n := by simp only [List.length_cons] at hk; omega
    have hr' : k ∈ Region.ready md ops listed := by simpa using hr
    have hst : lOp_g P ops Z ls V k (wpLoud_g P ops Z ls V Lq l) b := by unfold lOp_g; simp only [h0]; exact h
    obtain ⟨v, hy, hK⟩ := yieldsL_of_g h0 hst
    exact wpAnyLT_first_g h0 hs hc hn hkn (fun listed' a' hL => seqB_ready hL.1) l.length listed b inv (Region.free_spec h0 hf) hr' hy
      (wpAnyLT_lex_g hs hc hn l (k + 1) _ _ (fun j hj => by have := hl (j + 1) (by simp; omega); simpa [Nat.add_assoc, Nat.add_comm 1 j] using this) (by simp only [List.length_cons] at hk; omega) (inv.set hr' hkn) hB' hK)
theorem wp_region_loudTail_g (n : Nat) (Z : World) (ls : List Tmp) (V : Tmp → Value → World → Prop) {id : Nat} {Q : Exit → Act → World → Prop} {a : Act} {w : World} {l : List Oper} (hm : P.follows .mixedOrders = true) (hB : Region.lexTailB .any l.toArray n = true) (hG : guardsB_g l.toArray ls = true) (hI : idleB_g a ls = true)
    (hV : ∀ k u w w', V k u w → Gro w.heap.size w w' → V k u w') (hC : Gro Z.heap.size Z w.drew)
    (h : wpLoud_g P l.toArray Z ls V (fun b => ∀ a' w', Gro Z.heap.size Z w' → Sim_g ls V b a' w' → wpList P l.toArray Q (l.drop n) a' w') (l.take n) a) : (Code.region id l.toArray true).wp P Q a w := by
  simp only [Region.lexTailB, Bool.and_eq_true, decide_eq_true_eq] at hB
  obtain ⟨⟨⟨⟨hsel, hn⟩, hs⟩, hc⟩, hlex⟩ := hB
  have hn' : n < l.length := by simpa using hn
  have htl : (l.take n).length = n := by simp; omega
  have hdl : (l.drop n).length = l.toArray.size - n := by simp
  have inv0 : HeadInv .any l.toArray n (Array.replicate l.toArray.size false) :=
    ⟨by simp, fun j oj _ hl => (by rw [getD_replicate_false] at hl; cases hl), fun t _ ht => getD_in (by simpa using ht) (getD_replicate_false _ _)⟩
  have H := wpAnyLT_lex_g (P := P) (Z := Z) (ls := ls) (V := V) (md := .any) (g := l.toArray.size - n) hs hc hn (l.take n) 0 _ a (fun j hj => by
    have hj' : j < n := by rw [htl] at hj; exact hj
    simp [hj']) (by simpa using htl) inv0 (by rw [htl]; exact hlex) h
  refine wp_region_any hm ?_
  have := wpAny_of_loudHead_g (Q' := Q) (g := l.toArray.size - n) hV hG (fun listed b' a' w' hC' hS hL => by
    have := wpAny_of_seq (md := .any) (Q' := Q) (l.drop n) n listed a' w' (fun j => by simp [List.getElem?_drop]) (by rw [hdl]; exact hL.1) (hL.2 a' w' hC' hS)
    rwa [hdl] at this) _ _ a a w.drew hC (idle_sim_g hI) H
  rw [htl, show n + (l.toArray.size - n) = l.toArray.size by omega] at this
  exact this
/-- the frame with what the loud calls handed back -/
def fill_g (g : Tmp → Value) : List Tmp → Act → Act
  | [], b => b
  | k :: ks, b => fill_g g ks (b.put (some k) (g k))
theorem fill_size_g (g : Tmp → Value) : ∀ (ls : List Tmp) (b : Act), (fill_g g ls b).tmps.size = b.tmps.size ∧ (fill_g g ls b).defers = b.defers
  | [], b => ⟨rfl, rfl⟩
  | k :: ks, b => by
    have := fill_size_g g ks (b.put (some k) (g k))
    exact ⟨this.1.trans (by simp [Act.put]), this.2⟩
theorem fill_eval_g (g : Tmp → Value) (k : Tmp) : ∀ (ls : List Tmp) (b : Act), k < b.tmps.size → (fill_g g ls b).eval (.tmp k) = if ls.contains k then g k else b.eval (.tmp k)
  | [], b, _ => rfl
  | j :: ks, b, hk => by
    have h1 := fill_eval_g g k ks (b.put (some j) (g j)) (by simpa [Act.put] using hk)
    show (fill_g g ks (b.put (some j) (g j))).eval (.tmp k) = _
    rw [h1, eval_put_at_g]
    by_cases h2 : k = j
    · subst h2
      rw [if_pos (c := k = k ∧ _) ⟨rfl, hk⟩]
      simp
    · rw [if_neg (c := k = j ∧ _) (fun h => h2 h.1)]
      have h3 : (j :: ks).contains k = ks.contains k := by
        rw [List.contains_cons]
        have h4 : (k == j) = false := by simpa using h2
        rw [h4]; rfl
      rw [h3]
theorem Sim_g.filled {b a : Act} {w : World} (h : Sim_g ls V b a w) : a = fill_g (fun k => a.eval (.tmp k)) ls b := by
  obtain ⟨s1, s2⟩ := fill_size_g (fun k => a.eval (.tmp k)) ls b
  have ht : a.tmps = (fill_g (fun k => a.eval (.tmp k)) ls b).tmps := by
    apply Array.ext
    · rw [s1, h.sz]
    · intro k h1 h2
      have hk : k < b.tmps.size := by rw [← h.sz]; exact h1
      have h3 := fill_eval_g (fun k => a.eval (.tmp k)) k ls b hk
      have e1 : a.tmps[k] = a.eval (.tmp k) := by simp [Act.eval, h1]
      have e2 : ∀ (c : Act) (h : k < c.tmps.size), c.tmps[k] = c.eval (.tmp k) := fun c h => by simp [Act.eval, h]
      rw [e1, e2, h3]
      cases hc : ls.contains k
      · exact (h.at_ k).2 hc
      · rfl
  have hd : a.defers = (fill_g (fun k => a.eval (.tmp k)) ls b).defers := by rw [s2, h.de]
  generalize fill_g (fun k => a.eval (.tmp k)) ls b = c at *
  cases a
  cases c
  simp only at ht hd
  rw [ht, hd]
theorem wpLoud_end_g {Φ : Act → World → Prop} {b : Act} (need : List Tmp) (hn : (need.all fun k => ls.contains k && isTok (b.eval (.tmp k))) = true)
    (h : ∀ (g : Tmp → Value) (x : ExtG Z), (∀ k ∈ need, V k (g k) x.wd) → Φ (fill_g g ls b) x.wd) : wpLoud_g P ops Z ls V (fun b => ∀ a' w', Gro Z.heap.size Z w' → Sim_g ls V b a' w' → Φ a' w') [] b := by
  intro a' w' hb hs
  rw [hs.filled]
  refine h _ ⟨w', hb⟩ fun k hk => ?_
  have h1 := List.all_eq_true.1 hn k hk
  rw [Bool.and_eq_true] at h1
  exact (hs.at_ k).1 h1.1 (isTok_eq h1.2)
/-! steps -/
variable {Q : Act → Prop} {b : Act} {o : Oper} {rest : List Oper}
theorem wpLoud_skip_g (hw : Region.wanted o (yielded ops b.tmps) = false) (b' : Act) (hb : b.put o.dst undef = b') (h : wpLoud_g P ops Z ls V Q rest b') : wpLoud_g P ops Z ls V Q (o :: rest) b := by
  subst hb
  unfold wpLoud_g
  rw [if_neg (by rw [hw]; exact Bool.false_ne_true)]
  exact h
def plainOp_g : Op → Bool
  | .move _ | .assign _ | .pick _ _ _ | .load _ _ | .binOp _ _ _ _ _ | .unOp _ _ _ | .convert _ _ _ | .fieldAddr _ _ _ | .indexAddr _ _ _ | .extract _ _ | .slice _ _ _ _ _ | .index _ _ _ | .field _ _ _ => true
  | _ => false
def quietB_g (ops : Array Oper) (ls : List Tmp) (o : Oper) : Bool := (o.looksAt ops).all (fun k => !ls.contains k) && (match o.dst with | some d => !ls.contains d | none => true)
theorem notEnter_g {α : Type} (s : Sem α) (g : α → Value) (w w' : World) (f : FuncId) (args : Array Value) : ((do pure (.value (g (← s))) : Sem Next)).run P w ≠ .ok (.enter f args) w' := by
  rw [Sem.run_bind]
  cases s.run P w with
  | ok u w1 => simp [Result.andThen]
  | halt x w1 => simp [Result.andThen]
theorem plain_run_g {ρ : Operand → Value} (hp : plainOp_g o.op = true) (w w' : World) (f : FuncId) (args : Array Value) : (execOp ρ o).run P w ≠ .ok (.enter f args) w' := by
  obtain ⟨dst, op, type, pos, after, guard⟩ := o
  cases op <;> simp only [plainOp_g] at hp <;> (try cases hp)
  case move x => simp [execOp]
  case assign x => simp [execOp]
  case pick c x y => exact notEnter_g (asBool (ρ c)) (fun t => if t then ρ x else ρ y) w w' f args
  all_goals exact notEnter_g _ (fun t => t) w w' f args
theorem simAt_eval_g {b a : Act} {w : World} (hq : quietB_g ops ls o = true) (hs : ∀ k ∈ o.looksAt ops, SimAt_g ls V b a w k) : ∀ x ∈ o.op.operands, a.eval x = b.eval x := fun x hx => by
  unfold quietB_g at hq
  rw [Bool.and_eq_true] at hq
  cases x with
  | tmp k =>
    have hk : k ∈ o.looksAt ops := List.mem_append_left _ (List.mem_filterMap.2 ⟨.tmp k, by simpa using hx, rfl⟩)
    have h1 := List.all_eq_true.1 hq.1 k hk
    exact (hs k hk).2 (by simpa using h1)
  | const v => rfl
  | global v => rfl
  | func v => rfl
theorem quietB_dst_g (hq : quietB_g ops ls o = true) : ∀ d, o.dst = some d → ls.contains d = false := fun d hd => by
  unfold quietB_g at hq
  rw [Bool.and_eq_true, hd] at hq
  simpa using hq.2
theorem wpLoud_val_g (hw : Region.wanted o (yielded ops b.tmps) = true) (hq : quietB_g ops ls o = true) (hsel : ∀ cs t, o.op ≠ .select cs t) (v : Value) (hr : ∀ x : ExtG Z, (execOp b.eval o).run P x.wd = .ok (.value v) x.wd)
    (b' : Act) (hb : b.put o.dst v = b') (h : wpLoud_g P ops Z ls V Q rest b') : wpLoud_g P ops Z ls V Q (o :: rest) b := by
  subst hb
  unfold wpLoud_g
  rw [if_pos hw]
  refine ⟨v, fun a w hC hs => ?_, h⟩
  rw [execOp_congr o hsel (simAt_eval_g hq hs), show (execOp b.eval o).run P w = .ok (.value v) w from hr ⟨w, hC⟩]
  exact .inl ⟨rfl, rfl, quietB_dst_g hq⟩
theorem wpLoud_plain_g (hw : Region.wanted o (yielded ops b.tmps) = true) (hq : quietB_g ops ls o = true) (hp : plainOp_g o.op = true)
    (h : ∀ K : Act → Prop, (∀ b, wpLoud_g P ops Z ls V Q rest b → K b) → o.quiet P b (fun w => ∃ x : ExtG Z, w = x.wd) K) : wpLoud_g P ops Z ls V Q (o :: rest) b := by
  unfold wpLoud_g
  rw [if_pos hw]
  obtain ⟨v, h1, h2⟩ := h _ (fun _ h => h)
  refine ⟨v, fun a w hC hs => ?_, h2⟩
  have hsel : ∀ cs t, o.op ≠ .select cs t := fun cs t he => by rw [he] at hp; cases hp
  have h3 := h1 w ⟨⟨w, hC⟩, rfl⟩
  rw [execOp_congr o hsel (simAt_eval_g hq hs)]
  unfold Oper.quietAt at h3
  have hne := plain_run_g (P := P) (ρ := b.eval) hp w
  have hnk : ∀ w', (execOp b.eval o).run P w ≠ .ok .skip w' := by
    obtain ⟨dst, op, type, pos, after, guard⟩ := o
    have key : ∀ {α : Type} (s : Sem α) (g : α → Value) (w' : World), ((do pure (.value (g (← s))) : Sem Next)).run P w ≠ .ok .skip w' := by
      intro α s g w'
      rw [Sem.run_bind]
      cases s.run P w with
      | ok u w1 => simp [Result.andThen]
      | halt x w1 => simp [Result.andThen]
    intro w'
    cases op <;> simp only [plainOp_g] at hp <;> (try cases hp)
    case move x => simp [execOp]
    case assign x => simp [execOp]
    case pick c x y => exact key (asBool (b.eval c)) (fun t => if t then b.eval x else b.eval y) w'
    all_goals exact key _ (fun t => t) w'
  generalize (execOp b.eval o).run P w = r at *
  cases r with
  | ok n w' =>
    cases n <;> simp only [Oper.quietUpon] at h3
    case value u => exact .inl ⟨h3.1, h3.2, quietB_dst_g hq⟩
    case skip => exact absurd rfl (hnk w')
    case enter f args => exact absurd rfl (hne w' f args)
  | halt x w' => simp only [Oper.quietUpon] at h3
theorem wpLoud_load_g (hw : Region.wanted o (yielded ops b.tmps) = true) (hq : quietB_g ops ls o = true) (ty : TypeId) (x : Operand) (ho : o.op = .load ty x) (n off : Nat) (hx : b.eval x = .pointer (some ⟨n, off, none⟩)) (cs : List Value) (d : TypeDesc)
    (hc : ∀ y : ExtG Z, y.wd.rangeAt n off cs) (hu : P.underlying ty = some d) (hd : d.isRow = true) (hi : (P.info? ty).map (·.size) = some cs.length)
    (b' : Act) (hb : b.put o.dst (.agg cs.toArray) = b') (h : wpLoud_g P ops Z ls V Q rest b') : wpLoud_g P ops Z ls V Q (o :: rest) b :=
  wpLoud_val_g hw hq (fun cs t he => by rw [ho] at he; cases he) _ (fun y => by
    unfold execOp
    simp only [ho, hx, Instr.loadAt, Instr.sureAddr, Sem.run_bind, Sem.run_pure, Result.andThen_ok, run_loadVar_mid y.wd n off ty cs d (hc y) hu hd hi]) b' hb h
/-- an operation that makes memory -/
theorem wpLoud_make_g (hw : Region.wanted o (yielded ops b.tmps) = true) (hsel : ∀ cs t, o.op ≠ .select cs t) (hq : ((o.looksAt ops).all fun k => !ls.contains k) = true) (d : Tmp) (hd : o.dst = some d) (hl : ls.contains d = true)
    (hr : ∀ x : ExtG Z, ∃ u w', (execOp b.eval o).run P x.wd = .ok (.value u) w' ∧ Gro x.wd.heap.size x.wd w' ∧ V d u w')
    (b' : Act) (hb : b.put o.dst tok = b') (h : wpLoud_g P ops Z ls V Q rest b') : wpLoud_g P ops Z ls V Q (o :: rest) b := by
  subst hb
  unfold wpLoud_g
  rw [if_pos hw]
  refine ⟨tok, fun a w hC hs => ?_, h⟩
  have he : ∀ x ∈ o.op.operands, a.eval x = b.eval x := fun x hx => by
    cases x with
    | tmp k =>
      have hk : k ∈ o.looksAt ops := List.mem_append_left _ (List.mem_filterMap.2 ⟨.tmp k, by simpa using hx, rfl⟩)
      exact (hs k hk).2 (by simpa using List.all_eq_true.1 hq k hk)
    | const v => rfl
    | global v => rfl
    | func v => rfl
  obtain ⟨u, w', h1, h2, h3⟩ := hr ⟨w, hC⟩
  rw [execOp_congr o hsel he, show (execOp b.eval o).run P w = .ok (.value u) w' from h1]
  exact .inr ⟨h2, fun d' hd' => by rw [hd] at hd'; injection hd' with hd'; subst hd'; exact ⟨hl, h3⟩⟩
/-- what a loud call handed back, moved -/
theorem wpLoud_move_g (hw : Region.wanted o (yielded ops b.tmps) = true) (k d : Tmp) (ho : o.op = .assign (.tmp k) ∨ o.op = .move (.tmp k)) (hd : o.dst = some d) (hk : ls.contains k = true) (hl : ls.contains d = true) (ht : isTok (b.eval (.tmp k)) = true) (hV : ∀ u w, V k u w → V d u w)
    (b' : Act) (hb : b.put o.dst tok = b') (h : wpLoud_g P ops Z ls V Q rest b') : wpLoud_g P ops Z ls V Q (o :: rest) b := by
  subst hb
  unfold wpLoud_g
  rw [if_pos hw]
  refine ⟨tok, fun a w hC hs => ?_, h⟩
  have hrun : (execOp a.eval o).run P w = .ok (.value (a.eval (.tmp k))) w := by
    rcases ho with ho | ho <;> · unfold execOp; simp only [ho, Sem.run_pure]
  have hm : k ∈ o.looksAt ops := by
    unfold Oper.looksAt
    rcases ho with ho | ho <;> · rw [ho]; simp [Op.operands]
  have hv := (hs k hm).1 hk (isTok_eq ht)
  rw [hrun]
  exact .inr ⟨Gro.refl _ _, fun d' hd' => by rw [hd] at hd'; injection hd' with hd'; subst hd'; exact ⟨hl, hV _ _ hv⟩⟩
theorem wpLoud_loadB_g (hw : Region.wanted o (yielded ops b.tmps) = true) (hq : quietB_g ops ls o = true) (ty : TypeId) (x : Operand) (ho : o.op = .load ty x) (n off : Nat) (hx : b.eval x = .pointer (some ⟨n, off, none⟩)) (cs : Array Value) (d : TypeDesc)
    (hc : ∀ y : ExtG Z, y.wd.rangeAt n off cs.toList) (hu : P.underlying ty = some d) (hd : d.isRow = true) (hi : (P.info? ty).map (·.size) = some cs.toList.length)
    (b' : Act) (hb : b.put o.dst (.agg cs) = b') (h : wpLoud_g P ops Z ls V Q rest b') : wpLoud_g P ops Z ls V Q (o :: rest) b :=
  wpLoud_load_g hw hq ty x ho n off hx cs.toList d hc hu hd hi b' (by rw [Array.toArray_toList]; exact hb) h
def over_g (ls : List Tmp) (b : Act) (g : Tmp → Value) : Operand → Value
  | .tmp k => if ls.contains k then g k else b.eval (.tmp k)
  | x => b.eval x
/-- a call, by its contract -/
theorem wpLoud_call_g (d : Tmp) (hd : o.dst = some d) (need : List Tmp) (v : Value) (f : FuncId) (args : (Tmp → Value) → Array Value) (hw : Region.wanted o (yielded ops b.tmps) = true) (hsel : ∀ cs t, o.op ≠ .select cs t)
    (hn : (need.all fun k => ls.contains k && ((o.looksAt ops).contains k && isTok (b.eval (.tmp k)))) = true)
    (hrun : ∀ (g : Tmp → Value) w, (execOp (over_g ls b g) o).run P w = .ok (.enter f (args g)) w)
    (hc : ∀ (g : Tmp → Value) (x : ExtG Z), (∀ k ∈ need, V k (g k) x.wd) → Calls P f (args g) x.wd fun e w'' => ∃ u, e = .returned u ∧ Gro x.wd.heap.size x.wd w'' ∧ (if ls.contains d then V d u w'' else u = v))
    (b' : Act) (hb : b.put o.dst v = b') (h : wpLoud_g P ops Z ls V Q rest b') : wpLoud_g P ops Z ls V Q (o :: rest) b := by
  subst hb
  unfold wpLoud_g
  rw [if_pos hw]
  refine ⟨v, fun a w hC hs => ?_, h⟩
  have he : ∀ x ∈ o.op.operands, a.eval x = over_g ls b (fun k => a.eval (.tmp k)) x := fun x hx => by
    cases x with
    | tmp k =>
      have hk : k ∈ o.looksAt ops := List.mem_append_left _ (List.mem_filterMap.2 ⟨.tmp k, by simpa using hx, rfl⟩)
      show _ = if ls.contains k then _ else _
      cases hcn : ls.contains k
      · exact (hs k hk).2 hcn
      · rfl
    | const v => rfl
    | global v => rfl
    | func v => rfl
  rw [execOp_congr o hsel he, hrun]
  refine ⟨rfl, (hc _ ⟨w, hC⟩ fun k hk => ?_).mono ?_⟩
  · have h1 := List.all_eq_true.1 hn k hk
    simp only [Bool.and_eq_true] at h1
    exact (hs k (by simpa using h1.2.1)).1 h1.1 (isTok_eq h1.2.2)
  · rintro e w'' ⟨u, h1, h2, h3⟩
    refine ⟨u, h1, h2, fun d' hd' => ?_⟩
    rw [hd] at hd'
    injection hd' with hd'
    subst hd'
    exact ⟨fun h4 => by rwa [if_pos h4] at h3, fun h4 => by rwa [if_neg (by rw [h4]; exact Bool.false_ne_true)] at h3⟩
end
end Go.Proofs.Ytihbjnjpomljjaa
/- Contracts: which piece stands ahead; no draw is taken back. -/
namespace Go.Proofs.Ytihbjnjpomljjaa
set_option maxRecDepth 100000
open Go.RowKit
set_option linter.unusedVariables false
set_option linter.unusedSimpArgs false
theorem cell_extG {Z : World} {a : Addr} {v : Value} (h : Z.cell? a = some v) : ∀ x : ExtG Z, x.wd.cell? a = some v := fun x => cell_ext h ⟨x.1, x.2.toBelow⟩
theorem IntsV.nextG {l : List Int} {u : Value} {W W' : World} (h : IntsV l u W) (hb : Gro W.heap.size W W') : IntsV l u W' := h.next hb.toBelow
set_option maxRecDepth 100000 in
set_option maxHeartbeats 4000000 in
theorem ids_g (n d n2 d2 : Nat) (w : World) : Calls Try.prog 17 #[.agg (idV n d), .agg (idV n2 d2)] w fun e w' => e = .returned (.int .i64 (cmpD n d n2 d2)) ∧ Gro w.heap.size w w' := by
  go_enter Try.func17, Try.ntmps17
  go_upto_region 1 with (first
    | (refine Go.Great.wpList_boxTo rfl 31 (.tmp 0) rfl (some 2) rfl w.heap.size rfl (idV n d) rfl ?_)
    | (refine Go.Great.wpList_boxTo rfl 31 (.tmp 1) rfl (some 3) rfl (w.heap.size + 1) (by simp) (idV n2 d2) rfl ?_))
  obtain ⟨Z, hZ⟩ : ∃ Z, Z = (w.alloc (Obj.cells (idV n d) 31)).alloc (Obj.cells (idV n2 d2) 31) := ⟨_, rfl⟩
  have H1 := show Blk Z w.heap.size 31 (idV n d) by rw [hZ]; exact (Blk.new w _ _).alloc _
  have H2 := show Blk Z (w.heap.size + 1) 31 (idV n2 d2) by rw [hZ]; exact heap2P w _ _
  have HB := Lib.hid (show Gro w.heap.size w Z by rw [hZ]; exact ((Gro.refl _ _).alloc (Nat.le_refl _) _).alloc (by simp) _)
  rw [← hZ]
  clear hZ
  have c0 := cell_extG (show Z.cell? ⟨w.heap.size, 0, none⟩ = some (.int .u64 (n : Int)) from (H1.cell 0).trans rfl)
  have c1 := cell_extG (show Z.cell? ⟨w.heap.size, 1, none⟩ = some (.int .u16 (d : Int)) from (H1.cell 1).trans rfl)
  have c2 := cell_extG (show Z.cell? ⟨w.heap.size + 1, 0, none⟩ = some (.int .u64 (n2 : Int)) from (H2.cell 0).trans rfl)
  have c3 := cell_extG (show Z.cell? ⟨w.heap.size + 1, 1, none⟩ = some (.int .u16 (d2 : Int)) from (H2.cell 1).trans rfl)
  clear H1 H2
  refine wp_region_loud_g Z [15] (fun _ u W => IntsV [cmpI n n2, cmpI d d2] u W) (by kernel_rfl) (by kernel_rfl) (by kernel_rfl) (by kernel_rfl) (fun _ _ _ _ h hb => h.nextG hb) (Gro.refl _ _).drew ?_
  repeat (first
    | (refine wpLoud_call_g 9 rfl [] (.int .i64 (cmpI n n2)) 24 (fun g => #[.int .u64 (n : Int), .int .u64 (n2 : Int)]) rfl (fun _ _ h => by cases h) rfl (fun g w => by kernel_rfl) (fun g z hg => by
        refine (cmp_u64 _ _ z.wd).mono ?_
        rintro e w' ⟨rfl, rfl⟩
        exact ⟨_, rfl, Gro.refl _ _, rfl⟩) _ (by simp only [Act.put, List.setIfInBounds_toArray, List.set_cons_succ, List.set_cons_zero]; rfl) ?_)
    | (refine wpLoud_call_g 14 rfl [] (.int .i64 (cmpI d d2)) 25 (fun g => #[.int .u16 (d : Int), .int .u16 (d2 : Int)]) rfl (fun _ _ h => by cases h) rfl (fun g w => by kernel_rfl) (fun g z hg => by
        refine (cmp_u16 _ _ z.wd).mono ?_
        rintro e w' ⟨rfl, rfl⟩
        exact ⟨_, rfl, Gro.refl _ _, rfl⟩) _ (by simp only [Act.put, List.setIfInBounds_toArray, List.set_cons_succ, List.set_cons_zero]; rfl) ?_)
    | (refine wpLoud_make_g rfl (fun _ _ h => by cases h) rfl 15 rfl rfl (fun y => ⟨_, _, run_ints y.wd [cmpI n n2, cmpI d d2] #[(0, .tmp 9), (1, .tmp 14)] rfl (by kernel_rfl) (by simp) (by simp), (Gro.refl _ _).alloc (Nat.le_refl _) _, ⟨_, rfl, Blk.new _ _ _⟩⟩) _ (by simp only [Act.put, List.setIfInBounds_toArray, List.set_cons_succ, List.set_cons_zero]; rfl) ?_)
    | (refine wpLoud_call_g 16 rfl [15] (.int .i64 (cmpD n d n2 d2)) 16 (fun g => #[g 15]) rfl (fun _ _ h => by cases h) rfl (fun g w => by kernel_rfl) (fun g z hg => by
        refine ((hg 15 (by simp)).or_ (by simp)).mono ?_
        rintro e w' ⟨rfl, rfl⟩
        exact ⟨_, rfl, Gro.refl _ _, rfl⟩) _ (by simp only [Act.put, List.setIfInBounds_toArray, List.set_cons_succ, List.set_cons_zero]; rfl) ?_)
    | (refine wpLoud_plain_g rfl rfl rfl ?_; intro K hK; go_big_quiet_op; go_big_quiet_on))
  refine wpLoud_end_g [] (by rfl) ?_
  intro g z hg
  have HBZ := Lib.hid (HB.out.trans (z.bel.mono HB.out.size))
  generalize z.wd = Y2 at *
  simp only [fill_g, Act.put, List.setIfInBounds_toArray, List.set_cons_succ, List.set_cons_zero]
  go_wp2_with fail
  go_ret
  exact ⟨rfl, HBZ.out⟩
set_option maxRecDepth 100000 in
set_option maxHeartbeats 4000000 in
theorem compare_g (p q : Pc) (w : World) : Calls Try.prog 21 #[.agg (pcV p), .agg (pcV q)] w fun e w' => e = .returned (.int .i64 (cmpP p q)) ∧ Gro w.heap.size w w' := by
  go_enter Try.func21, Try.ntmps21
  go_upto_region 1 with (first
    | (refine Go.Great.wpList_boxTo rfl 33 (.tmp 0) rfl (some 2) rfl w.heap.size rfl (pcV p) rfl ?_)
    | (refine Go.Great.wpList_boxTo rfl 33 (.tmp 1) rfl (some 3) rfl (w.heap.size + 1) (by simp) (pcV q) rfl ?_))
  obtain ⟨Z, hZ⟩ : ∃ Z, Z = (w.alloc (Obj.cells (pcV p) 33)).alloc (Obj.cells (pcV q) 33) := ⟨_, rfl⟩
  have h1 := show Blk Z w.heap.size 33 (pcV p) by rw [hZ]; exact (Blk.new w _ _).alloc _
  have h2 := show Blk Z (w.heap.size + 1) 33 (pcV q) by rw [hZ]; exact heap2P w _ _
  have HB := Lib.hid (show Gro w.heap.size w Z by rw [hZ]; exact ((Gro.refl _ _).alloc (Nat.le_refl _) _).alloc (by simp) _)
  rw [← hZ]
  clear hZ
  have c0 := cell_extG (show Z.cell? ⟨w.heap.size, 0, none⟩ = some (.string p.s) from (h1.cell 0).trans rfl)
  have c1 := cell_extG (show Z.cell? ⟨w.heap.size, 1, none⟩ = some (.int .i64 p.t) from (h1.cell 1).trans rfl)
  have c2 := cell_extG (show Z.cell? ⟨w.heap.size + 1, 0, none⟩ = some (.string q.s) from (h2.cell 0).trans rfl)
  have c3 := cell_extG (show Z.cell? ⟨w.heap.size + 1, 1, none⟩ = some (.int .i64 q.t) from (h2.cell 1).trans rfl)
  have H1 := Lib.hid h1
  have H2 := Lib.hid h2
  have HII := Lib.hid idInfo
  clear h1 h2
  refine wp_region_loud_g Z [20] (fun _ u W => IntsV [cmpS p.s q.s, cmpI p.t q.t, cmpD p.n p.d q.n q.d] u W) (by kernel_rfl) (by kernel_rfl) (by kernel_rfl) (by kernel_rfl) (fun _ _ _ _ h hb => h.nextG hb) (Gro.refl _ _).drew ?_
  repeat (first
    | (refine wpLoud_loadB_g rfl rfl 31 (.tmp 15) rfl w.heap.size 3 rfl (idV p.n p.d) _ (fun z => rangeAt_id (H1.out.below z.bel.toBelow H1.out.lt)) Try.underlying31 rfl HII.out _ (by simp only [Act.put, List.setIfInBounds_toArray, List.set_cons_succ, List.set_cons_zero]; rfl) ?_)
    | (refine wpLoud_loadB_g rfl rfl 31 (.tmp 17) rfl (w.heap.size + 1) 3 rfl (idV q.n q.d) _ (fun z => rangeAt_id (H2.out.below z.bel.toBelow H2.out.lt)) Try.underlying31 rfl HII.out _ (by simp only [Act.put, List.setIfInBounds_toArray, List.set_cons_succ, List.set_cons_zero]; rfl) ?_)
    | (refine wpLoud_call_g 9 rfl [] (.int .i64 (cmpS p.s q.s)) 30 (fun g => #[.string p.s, .string q.s]) rfl (fun _ _ h => by cases h) rfl (fun g w => by kernel_rfl) (fun g z hg => by
        refine (cmp_s _ _ z.wd).mono ?_
        rintro e w' ⟨rfl, rfl⟩
        exact ⟨_, rfl, Gro.refl _ _, rfl⟩) _ (by simp only [Act.put, List.setIfInBounds_toArray, List.set_cons_succ, List.set_cons_zero]; rfl) ?_)
    | (refine wpLoud_call_g 14 rfl [] (.int .i64 (cmpI p.t q.t)) 18 (fun g => #[.int .i64 p.t, .int .i64 q.t]) rfl (fun _ _ h => by cases h) rfl (fun g w => by kernel_rfl) (fun g z hg => by
        refine (cmp_i64 _ _ z.wd).mono ?_
        rintro e w' ⟨rfl, rfl⟩
        exact ⟨_, rfl, Gro.refl _ _, rfl⟩) _ (by simp only [Act.put, List.setIfInBounds_toArray, List.set_cons_succ, List.set_cons_zero]; rfl) ?_)
    | (refine wpLoud_call_g 19 rfl [] (.int .i64 (cmpD p.n p.d q.n q.d)) 17 (fun g => #[.agg (idV p.n p.d), .agg (idV q.n q.d)]) rfl (fun _ _ h => by cases h) rfl (fun g w => by kernel_rfl) (fun g z hg => by
        refine (ids_g _ _ _ _ z.wd).mono ?_
        rintro e w' ⟨rfl, hb⟩
        exact ⟨_, rfl, hb, rfl⟩) _ (by simp only [Act.put, List.setIfInBounds_toArray, List.set_cons_succ, List.set_cons_zero]; rfl) ?_)
    | (refine wpLoud_make_g rfl (fun _ _ h => by cases h) rfl 20 rfl rfl (fun y => ⟨_, _, run_ints y.wd [cmpS p.s q.s, cmpI p.t q.t, cmpD p.n p.d q.n q.d] #[(0, .tmp 9), (1, .tmp 14), (2, .tmp 19)] rfl (by kernel_rfl) (by simp) (by simp), (Gro.refl _ _).alloc (Nat.le_refl _) _, ⟨_, rfl, Blk.new _ _ _⟩⟩) _ (by simp only [Act.put, List.setIfInBounds_toArray, List.set_cons_succ, List.set_cons_zero]; rfl) ?_)
    | (refine wpLoud_call_g 21 rfl [20] (.int .i64 (cmpP p q)) 16 (fun g => #[g 20]) rfl (fun _ _ h => by cases h) rfl (fun g w => by kernel_rfl) (fun g z hg => by
        refine ((hg 20 (by simp)).or_ (by simp)).mono ?_
        rintro e w' ⟨rfl, rfl⟩
        exact ⟨_, rfl, Gro.refl _ _, rfl⟩) _ (by simp only [Act.put, List.setIfInBounds_toArray, List.set_cons_succ, List.set_cons_zero]; rfl) ?_)
    | (refine wpLoud_plain_g rfl rfl rfl ?_; intro K hK; go_big_quiet_op; go_big_quiet_on))
  refine wpLoud_end_g [] (by rfl) ?_
  intro g z hg
  have HBZ := Lib.hid (HB.out.trans (z.bel.mono HB.out.size))
  generalize z.wd = Y2 at *
  simp only [fill_g, Act.put, List.setIfInBounds_toArray, List.set_cons_succ, List.set_cons_zero]
  go_wp2_with fail
  go_ret
  exact ⟨rfl, HBZ.out⟩
end Go.Proofs.Ytihbjnjpomljjaa
/- slices.SortFunc at pieces: the kit's contract, laid. -/
namespace Go.Proofs.Ytihbjnjpomljjaa
set_option maxRecDepth 100000
open Go.RowKit
open Go.Sort (SWO PermIn SortedIn)
set_option linter.unusedVariables false
set_option linter.unusedSimpArgs false
def sortLay_ren : Go.Shelf.Ren := ⟨fun | 6 => 28 | 15 => 36 | 14 => 35 | 28 => 48 | 29 => 49 | 20 => 40 | 21 => 41 | 22 => 42 | 23 => 43 | 24 => 44 | 25 => 45 | 26 => 46 | 27 => 47 | 46 => 50 | 47 => 51 | 48 => 52 | 49 => 53 | 50 => 54 | 57 => 55 | n => n, fun | 22 => 22 | 24 => 33 | 25 => 54 | 3 => 3 | 39 => 68 | 0 => 0 | 53 => 80 | 55 => 28 | 4 => 4 | 46 => 73 | 45 => 72 | 50 => 77 | 5 => 5 | 9 => 9 | 66 => 82 | 70 => 86 | 76 => 88 | 77 => 89 | n => n, fun | n => n⟩
theorem sortLay : Go.Proofs.SlLaysF0.n6 Try.prog sortLay_ren := {
mixed := by kernel_rfl,
  f6 := ⟨"slices.SortFunc[[]quaestor/api.Piece,quaestor/api.Piece]", by decide, Try.func28.trans (congrArg some (by kernel_rfl))⟩,
  f14 := ⟨"slices.pdqsortCmpFunc[quaestor/api.Piece]", by decide, Try.func35.trans (congrArg some (by kernel_rfl))⟩,
  f15 := Try.func36.trans (congrArg some (by kernel_rfl)),
  f20 := ⟨"slices.insertionSortCmpFunc[quaestor/api.Piece]", by decide, Try.func40.trans (congrArg some (by kernel_rfl))⟩,
  f21 := ⟨"slices.heapSortCmpFunc[quaestor/api.Piece]", by decide, Try.func41.trans (congrArg some (by kernel_rfl))⟩,
  f22 := ⟨"slices.breakPatternsCmpFunc[quaestor/api.Piece]", by decide, Try.func42.trans (congrArg some (by kernel_rfl))⟩,
  f23 := ⟨"slices.choosePivotCmpFunc[quaestor/api.Piece]", by decide, Try.func43.trans (congrArg some (by kernel_rfl))⟩,
  f24 := ⟨"slices.reverseRangeCmpFunc[quaestor/api.Piece]", by decide, Try.func44.trans (congrArg some (by kernel_rfl))⟩,
  f25 := ⟨"slices.partialInsertionSortCmpFunc[quaestor/api.Piece]", by decide, Try.func45.trans (congrArg some (by kernel_rfl))⟩,
  f26 := ⟨"slices.partitionEqualCmpFunc[quaestor/api.Piece]", by decide, Try.func46.trans (congrArg some (by kernel_rfl))⟩,
  f27 := ⟨"slices.partitionCmpFunc[quaestor/api.Piece]", by decide, Try.func47.trans (congrArg some (by kernel_rfl))⟩,
  f28 := Try.func48.trans (congrArg some (by kernel_rfl)),
  f29 := Try.func49.trans (congrArg some (by kernel_rfl)),
  f46 := ⟨"slices.siftDownCmpFunc[quaestor/api.Piece]", by decide, Try.func50.trans (congrArg some (by kernel_rfl))⟩,
  f47 := Try.func51.trans (congrArg some (by kernel_rfl)),
  f48 := Try.func52.trans (congrArg some (by kernel_rfl)),
  f49 := ⟨"slices.medianAdjacentCmpFunc[quaestor/api.Piece]", by decide, Try.func53.trans (congrArg some (by kernel_rfl))⟩,
  f50 := ⟨"slices.medianCmpFunc[quaestor/api.Piece]", by decide, Try.func54.trans (congrArg some (by kernel_rfl))⟩,
  f57 := ⟨"slices.order2CmpFunc[quaestor/api.Piece]", by decide, Try.func55.trans (congrArg some (by kernel_rfl))⟩,
  t0 := Try.underlying0,
  a0 := Try.isAgg0,
  z0 := Try.sizeOf0,
  v0 := Try.zeroValue0,
  t3 := Try.underlying3,
  a3 := Try.isAgg3,
  z3 := Try.sizeOf3,
  v3 := Try.zeroValue3,
  t4 := Try.underlying4,
  a4 := Try.isAgg4,
  z4 := Try.sizeOf4,
  v4 := Try.zeroValue4,
  t5 := Try.underlying5,
  a5 := Try.isAgg5,
  z5 := Try.sizeOf5,
  v5 := Try.zeroValue5,
  t9 := Try.underlying9,
  a9 := Try.isAgg9,
  z9 := Try.sizeOf9,
  v9 := Try.zeroValue9,
  t22 := Try.underlying22,
  a22 := Try.isAgg22,
  z22 := Try.sizeOf22,
  v22 := Try.zeroValue22,
  t25 := Try.underlying54,
  a25 := Try.isAgg54,
  z25 := Try.sizeOf54,
  v25 := Try.zeroValue54,
  t39 := Try.underlying68,
  a39 := Try.isAgg68,
  z39 := Try.sizeOf68,
  v39 := Try.zeroValue68,
  t45 := Try.underlying72,
  a45 := Try.isAgg72,
  z45 := Try.sizeOf72,
  v45 := Try.zeroValue72,
  t46 := Try.underlying73,
  a46 := Try.isAgg73,
  z46 := Try.sizeOf73,
  v46 := Try.zeroValue73,
  t50 := Try.underlying77,
  a50 := Try.isAgg77,
  z50 := Try.sizeOf77,
  v50 := Try.zeroValue77,
  t53 := Try.underlying80,
  a53 := Try.isAgg80,
  z53 := Try.sizeOf80,
  v53 := Try.zeroValue80,
  t55 := Try.underlying28,
  a55 := Try.isAgg28,
  z55 := Try.sizeOf28,
  v55 := Try.zeroValue28,
  t66 := Try.underlying82,
  a66 := Try.isAgg82,
  z66 := Try.sizeOf82,
  v66 := Try.zeroValue82,
  t70 := Try.underlying86,
  a70 := Try.isAgg86,
  z70 := Try.sizeOf86,
  v70 := Try.zeroValue86,
  t76 := Try.underlying88,
  a76 := Try.isAgg88,
  z76 := Try.sizeOf88,
  v76 := Try.zeroValue88,
  t77 := Try.underlying89,
  a77 := Try.isAgg89,
  z77 := Try.sizeOf89,
  v77 := Try.zeroValue89 }
theorem cmpLays_pc (w : World) (blk off size : Nat) : CmpLays Try.prog 21 #[] pcL 5 cmpP blk off size w := fun m os dk _ x y => by
  refine (show Calls Try.prog 21 #[.agg (pcV x), .agg (pcV y)] _ _ from (compare_g x y _).mono ?_)
  rintro e w' ⟨rfl, hb⟩
  exact ⟨rfl, hb.grow⟩
theorem pcs_flat (l : List Pc) : pcs l = flatE pcL l := rfl
theorem sortP_c (g cap : Nat) (l : List Pc) (rest : List Value) (w : World) (hb : Blk w g 33 (pcs l ++ rest).toArray) (hn : l.length < 4611686018427387904) :
    Calls Try.prog 28 #[.slice (some ⟨g, 0, none⟩) l.length cap, .func (.func 21) #[] #[]] w fun e w' =>
      e = .returned (.tuple #[]) ∧ ∃ d' : Array Pc, PermIn 0 l.toArray.size l.toArray d' ∧ SortedIn (ltOf cmpP) 0 l.toArray.size d' ∧ Blk w' g 33 (pcs d'.toList ++ rest).toArray ∧ Only (fun i => i = g) w w' := by
  have hk : ∀ x : Pc, (pcL x).length = 5 := fun x => rfl
  have h := AnyQ.slices_SortFunc (P := Try.prog) (ρ := sortLay_ren) sortLay 5 Try.isAgg33 Try.sizeOf33 pcL hk (fun x v hv => by
    simp [pcL] at hv
    rcases hv with rfl | rfl | rfl | rfl | rfl <;> rfl) cmpP cmpP_swo 21 #[] g 0 cap l.toArray w (enters_of Try.func21 (by kernel_rfl) rfl) (cmpLays_pc w g 0 _) (holdsK_blk pcL 5 hk (by omega) hb) hb.lt (by simpa using hn)
  refine (show Calls Try.prog 28 _ w _ from h).mono ?_
  rintro e w' ⟨rfl, d', n, os, hp, hs, rfl⟩
  obtain ⟨h1, h2⟩ := sortWorld_blk pcL 5 hk (by omega) hb n d' (by have := hp.1; simpa using this) os
  exact ⟨rfl, d', hp, hs, h1, h2⟩
theorem sort0_c (A : Option Addr) (cap : Nat) (fv : Value) (w : World) : Calls Try.prog 28 #[.slice A 0 cap, fv] w fun e w' => e = .returned (.tuple #[]) ∧ w' = w :=
  AnyF.slices_SortFunc_none (P := Try.prog) (ρ := sortLay_ren) sortLay A cap fv w
end Go.Proofs.Ytihbjnjpomljjaa
/- Contract: slices.SortedFunc of what comes of Merge's map: the merged pieces. -/
namespace Go.Proofs.Ytihbjnjpomljjaa
set_option maxRecDepth 100000
open Go.RowKit
set_option linter.unusedVariables false
set_option linter.unusedSimpArgs false
set_option maxRecDepth 100000 in
set_option maxHeartbeats 4000000 in
theorem sorted_c (b nn : Nat) (M : List Pc) (hnn : nn ≤ 1000000) (Bm : Nat) (w : World) (hlt : Bm < w.heap.size) (hm : w.cell? ⟨Bm, 0, none⟩ = some (.map (some b))) (hown : MapAt w b nn M) (hM : M.length ≤ 1000000) :
    Calls Try.prog 19 #[.func (.func 29) #[] #[.pointer (some ⟨Bm, 0, none⟩)], .func (.func 21) #[] #[]] w fun e w' =>
      ∃ v : Value, e = .returned v ∧ OwnP w' w.heap.size v M ∧ Below w.heap.size w w' := by
  have HC := Lib.hid (collect_c b nn M hnn Bm w hlt hm hown)
  obtain ⟨D, _, _, hS, _⟩ := hown
  have HS := Lib.hid hS
  clear hS
  go_enter Try.func19, Try.ntmps19
  go_upto_region 2 with (go_at_call 27; (refine HC.out.mono ?_); rintro e w2 ⟨v, ss, rfl, h1, h2, h3⟩; have R1 := Lib.hid h1; have R2 := Lib.hid h2; have R3 := Lib.hid h3; clear h1 h2 h3)
  clear HC
  have hss : ss.length ≤ 1000000 := by
    have h1 := R1.out
    have hp : ss.Perm M := (List.perm_ext_iff_of_nodup h1.1 (sort_nodup HS.out)).2 h1.2
    rw [hp.length_eq]; exact hM
  have ho : OwnP w2 w.heap.size v ss := R2.out
  obtain ⟨A, cap, rfl, hc1, hc2, hrd⟩ := ho.rd
  rcases Nat.eq_zero_or_pos ss.length with h0 | h0
  · have HO := Lib.hid ho
    rw [h0]
    have hnil : ss = [] := List.eq_nil_of_length_eq_zero h0
    have hMn : M = [] := by
      cases M with
      | nil => rfl
      | cons a M => exact absurd ((R1.out.2 a).2 (List.mem_cons_self ..)) (by rw [hnil]; simp)
    clear ho hrd h0
    go_wp2_with (go_at_call 28; (refine (sort0_c A cap _ w2).mono ?_); rintro e w3 ⟨rfl, rfl⟩)
    go_ret
    refine ⟨_, rfl, ?_, R3.out⟩
    have := HO.out
    rw [hnil] at this
    rw [hMn]; exact this
  · obtain ⟨g, rest, rfl, hbg, hb, hn, hmx, hr⟩ := ho.open_ h0
    have HB := Lib.hid hb
    have HR := Lib.hid hr
    have HN := Lib.hid hn
    have HX := Lib.hid hmx
    have HBG := Lib.hid hbg
    clear ho hrd hb hr hn hmx hbg hc1 hc2
    go_wp2_with (go_at_call 28; (refine (sortP_c g cap ss rest w2 HB.out (by omega)).mono ?_); rintro e w3 ⟨rfl, d', h1, h2, h3, h4⟩; have S1 := Lib.hid h1; have S2 := Lib.hid h2; have S3 := Lib.hid h3; have S4 := Lib.hid h4; clear h1 h2 h3 h4)
    go_ret
    have he := sorted_eq HS.out R1.out.2 R1.out.1 S1.out S2.out
    have hl : ss.length = M.length := by
      have h1 := S1.out.1
      have h2 : d'.toList.length = d'.size := Array.length_toList ..
      rw [← he, h2, h1]
      rfl
    have hb3 := S3.out
    rw [he] at hb3
    refine ⟨_, rfl, ?_, R3.out.trans (S4.out.below (fun i hi => by rw [hi]; exact HBG.out) R3.out.size)⟩
    rw [hl]
    exact OwnP.ofBlk HBG.out hb3 (by rw [← hl]; exact HN.out) HX.out (by rw [← hl]; exact HR.out)
end Go.Proofs.Ytihbjnjpomljjaa
/- Rows of rows of pieces; places; what a look-up and a comparison say: for Merge. -/
namespace Go.Proofs.Ytihbjnjpomljjaa
set_option maxRecDepth 100000
open Go.RowKit
set_option linter.unusedVariables false
set_option linter.unusedSimpArgs false
/-- lists of pieces that lie in memory -/
def LsAt (w : World) (A : Option Addr) (Ls : List (List Pc)) : Prop := ∀ i, i < Ls.length → ∃ ad Ai ci, A = some ad ∧ ad.block < w.heap.size ∧ w.cell? (ad.add i) = some (.slice Ai (Ls.getD i []).length ci) ∧ (Ls.getD i []).length ≤ ci ∧ RdP w w.heap.size Ai (Ls.getD i [])
theorem LsAt.next {w w' : World} {A : Option Addr} {Ls : List (List Pc)} (h : LsAt w A Ls) (hb : Below w.heap.size w w') : LsAt w' A Ls := fun i hi => by
  obtain ⟨ad, Ai, ci, rfl, h1, h2, h3, h4⟩ := h i hi
  refine ⟨ad, Ai, ci, rfl, Nat.lt_of_lt_of_le h1 hb.size, (hb.cell (by rw [add_block]; exact h1)).trans h2, h3, ?_⟩
  exact (Rd.below (show Rd w w.heap.size Ai (pcs _) from h4) hb).more hb.size
def zPl : Array Value := #[.string ByteArray.empty, .int .i64 0]
theorem zero_pl (w : World) : (zeroValue 45).run Try.prog w = .ok (.agg zPl) w := by kernel_rfl
def plC (p : Pc) : Array Value := #[.string p.s, .int .i64 p.t]
theorem plC_one (p : Pc) : (plC p).all (·.oneCell') = true := by simp [plC, Value.oneCell']
def plK (p : Pc) : List Value := [.string p.s, .int .i64 p.t]
theorem plK_len (p : Pc) : (Try.prog.info? 45).map (·.size) = some (plK p).length := by
  show _ = some 2
  kernel_rfl
theorem plInfo (p : Pc) : (Try.prog.info? 45).map (·.size) = some (plC p).size := by
  show _ = some 2
  kernel_rfl
theorem plLn (p : Pc) : (Try.prog.info? 45).map (·.size) = some (plC p).toList.length := by
  show _ = some 2
  kernel_rfl
def rankC (q p : Pc) : Int := orL [cmpD q.n q.d p.n p.d, cmpI q.v p.v]
theorem rank_ge (q p : Pc) : decide (0 ≤ rankC q p) = !better p q := by
  have h : rankC q p < 0 ↔ better p q = true := by
    unfold rankC cmpD
    rw [orL2_neg, orL2_neg, better_iff, cmpI_neg, cmpI_neg, cmpI_neg]
    have h0 : orL [cmpI (q.n : Int) p.n, cmpI (q.d : Int) p.d] = 0 ↔ q.n = p.n ∧ q.d = p.d := by
      simp only [orL]
      have e1 := cmpI_zero (q.n : Int) p.n
      have e2 := cmpI_zero (q.d : Int) p.d
      split
      · rename_i h1
        have h3 := e1.1 h1
        split
        · rename_i h2
          have h4 := e2.1 h2
          constructor
          · intro _; omega
          · intro _; rfl
        · rename_i h2
          constructor
          · intro h5; exact absurd h5 h2
          · intro h5; exact absurd (e2.2 (by omega)) h2
      · rename_i h1
        constructor
        · intro h5; exact absurd h5 h1
        · intro h5; exact absurd (e1.2 (by omega)) h1
    rw [h0, cmpI_zero]
    omega
  cases hb : better p q with
  | true =>
    have := h.2 hb
    rw [Bool.not_true, decide_eq_false_iff_not]; omega
  | false =>
    have : ¬ rankC q p < 0 := fun h1 => by rw [h.1 h1] at hb; cases hb
    rw [Bool.not_false, decide_eq_true_iff]; omega
theorem flatten_take_succ (Ls : List (List Pc)) (k : Nat) (hk : k < Ls.length) : (Ls.take (k + 1)).flatten = (Ls.take k).flatten ++ Ls.getD k [] := by
  rw [List.take_add_one, List.flatten_append]
  congr 1
  rw [List.getElem?_eq_getElem hk, List.getD_eq_getElem?_getD, List.getElem?_eq_getElem hk]
  simp
theorem mgTo_snoc (M l : List Pc) (p : Pc) : mgTo M (l ++ [p]) = if ckP p then insP p (mgTo M l) else mgTo M l := by
  rw [mgTo_app]
  rfl
theorem take_snocP (l : List Pc) (k : Nat) (h : k < l.length) : l.take (k + 1) = l.take k ++ [l.getD k pc0] := by
  rw [List.take_add_one, List.getElem?_eq_getElem h, List.getD_eq_getElem?_getD, List.getElem?_eq_getElem h]
  rfl
theorem MapAt.grow {w w' : World} {b n b2 : Nat} {M : List Pc} (h : MapAt w b n M) (hb : Below b2 w w') (hlt : b < b2) : MapAt w' b n M := by
  obtain ⟨D, ⟨es, clock, hbk, r⟩, h2⟩ := h
  exact ⟨D, ⟨es, clock, (hb.block b hlt).trans hbk, r⟩, h2⟩
theorem MapAt.sorted {w : World} {b n : Nat} {M : List Pc} (h : MapAt w b n M) : SortP M := by
  obtain ⟨D, _, _, h3, _⟩ := h
  exact h3
theorem one_better {M : List Pc} (hS : SortP M) {p q : Pc} (hq : q ∈ M) (hs : samePl q p = true) (hb : better p q = true) : ∀ r ∈ M, samePl r p = true → better p r = true := fun r hr hrs => by
  rw [sort_place hS hr hq (samePl_trans hrs (by rw [samePl_comm]; exact hs))]
  exact hb
theorem ckP_in {p : Pc} (h : ckP p = true) (hok : PcOk p) : PcIn p := by
  unfold ckP at h
  simp only [Bool.and_eq_true, decide_eq_true_eq] at h
  exact ⟨by unfold maxLen; omega, hok.t0, hok.t1⟩
theorem flat_len : ∀ (Ls : List (List Pc)) (m : Nat), (∀ L ∈ Ls, L.length ≤ m) → Ls.flatten.length ≤ Ls.length * m
  | [], m, _ => by simp
  | L :: Ls, m, h => by
    rw [List.flatten_cons, List.length_append, List.length_cons, Nat.add_mul, Nat.one_mul]
    have := flat_len Ls m (fun K hK => h K (List.mem_cons_of_mem _ hK))
    have := h L (List.mem_cons_self ..)
    omega
theorem idle1M {x : Value} (h : isTok x = false) : (!isTok x && true) = true := by rw [h]; rfl
theorem placeMapU : Try.prog.underlying 42 = some (.map 45 33) := Try.underlying42
end Go.Proofs.Ytihbjnjpomljjaa
/- Contract: piece.Merge. -/
namespace Go.Proofs.Ytihbjnjpomljjaa
set_option maxRecDepth 100000
open Go.RowKit
set_option linter.unusedVariables false
set_option linter.unusedSimpArgs false
set_option maxRecDepth 100000 in
set_option maxHeartbeats 16000000 in
theorem merge_c (A : Option Addr) (cap : Nat) (Ls : List (List Pc)) (w : World) (hls : LsAt w A Ls) (hc : Ls.length ≤ cap) (hlen : Ls.length ≤ 1000) (hp : ∀ L ∈ Ls, L.length ≤ 1000 ∧ ∀ p ∈ L, PcOk p ∧ p.s.size ≤ 9223372036854775807) :
    Calls Try.prog 10 #[.slice A Ls.length cap] w fun e w' => ∃ v, e = .returned v ∧ OwnP w' w.heap.size v (mergeL Ls.flatten) ∧ Below w.heap.size w w' := by
  have HLS := Lib.hid hls
  have HP := Lib.hid hp
  have HLEN := Lib.hid hlen
  have zf := zero_pc
  have zs1 : zPc.size = 5 := by rfl
  have zs2 : ¬ zPc = #[] := by intro h; have := congrArg Array.size h; rw [zs1] at this; cases this
  have zf2 := zero_pl
  have zs3 : zPl.size = 2 := by rfl
  have zs4 : ¬ zPl = #[] := by intro h; have := congrArg Array.size h; rw [zs3] at this; cases this
  have hmk : (Instr.makeMap 42 none).run Try.prog w = .ok (.map (some w.heap.size)) (w.alloc (.map #[] 0)) := by rfl
  clear hls hp
  go_enter Try.func10, Try.ntmps10
  go_upto_region 2 with fail
  have hz1 : MapAt (w.alloc (.map #[] 0)) w.heap.size 0 [] := MapAt.made w
  have hz2 : Below w.heap.size w (w.alloc (.map #[] 0)) := (Below.refl _ _).alloc (Nat.le_refl _) _
  generalize w.alloc (.map #[] 0) = Z at *
  have HM := Lib.hid hz1
  have HB := Lib.hid hz2
  clear hz1 hz2 hmk
  go_wp2_with fail
  go_loopw [14, 50] (fun i u wr => isTok u = false ∧ ∃ k : Nat, k ≤ Ls.length ∧ i = .int .i64 (k : Nat) ∧ Below w.heap.size w wr ∧ ∃ n, n ≤ k * 1000 ∧ MapAt wr w.heap.size n (mgTo [] (Ls.take k).flatten)) (fun i _ _ => Ls.length - (intOf i).toNat)
  case atStart => exact ⟨rfl, 0, Nat.zero_le _, rfl, HB.out, 0, Nat.le_refl _, HM.out⟩
  case round =>
    rename World => wr
    obtain ⟨htk0, k, hk, rfl, hbr, n, hn, hmr⟩ := hrel
    have HT0 := Lib.hid htk0
    clear htk0
    clear HM HB
    by_cases hlt : k < Ls.length
    · have q1 : (k : Int) < (Ls.length : Int) := by omega
      obtain ⟨ad, Ai, ci, rfl, h1, h2', h3, h4⟩ := HLS.out k hlt
      have h2 := (hbr.cell (by rw [add_block]; exact h1)).trans h2'
      clear h2'
      obtain ⟨L, hL⟩ : ∃ L, L = Ls.getD k [] := ⟨_, rfl⟩
      rw [← hL] at h2 h3 h4
      have hLm : L ∈ Ls := by rw [hL, List.getD_eq_getElem?_getD, List.getElem?_eq_getElem hlt]; exact List.getElem_mem hlt
      obtain ⟨hL1, hLp⟩ := HP.out L hLm
      have HFL := Lib.hid (show mgTo [] (Ls.take (k + 1)).flatten = mgTo (mgTo [] (Ls.take k).flatten) L by rw [flatten_take_succ Ls k hlt, mgTo_app, hL])
      have hmr0 := hmr
      generalize mgTo [] (Ls.take k).flatten = M0 at *
      have HMR := Lib.hid hmr0
      have HBR := Lib.hid hbr
      have HRD := Lib.hid h4
      have HLP := Lib.hid hLp
      have HLT := Lib.hid hlt
      have HK := Lib.hid hn
      have HL1 := Lib.hid hL1
      have p1 : (L.length : Int) ≤ 1000 := by omega
      clear hL hLm hmr hmr0 hbr h4 hLp hlt hn hL1
      go_wp2_with fail
      go_step3
      go_wp2_with fail
      go_step3
      go_wp2_with fail
      go_loopw [20, 50] (fun i u wr => isTok u = false ∧ ∃ j : Nat, j ≤ L.length ∧ i = .int .i64 (j : Nat) ∧ Below w.heap.size w wr ∧ ∃ n, n ≤ k * 1000 + j ∧ MapAt wr w.heap.size n (mgTo M0 (L.take j))) (fun i _ _ => L.length - (intOf i).toNat)
      case atStart => exact ⟨HT0.out, 0, Nat.zero_le _, rfl, HBR.out, n, HK.out, HMR.out⟩
      case round =>
        clear HMR HBR HK
        rename World => wi
        obtain ⟨htk1, j, hj, rfl, hbi, n2, hn2, hmi⟩ := hrel
        have HT1 := Lib.hid htk1
        clear htk1
        by_cases hjl : j < L.length
        · have r1 : (j : Int) < (L.length : Int) := by omega
          obtain ⟨ad2, rfl, hab, hat⟩ := (show RdP wi w.heap.size Ai L from Rd.below HRD.out hbi).open_ (by omega)
          obtain ⟨p, hpe⟩ : ∃ p, p = L.getD j pc0 := ⟨_, rfl⟩
          have hpa := hat.piece j hjl
          rw [← hpe] at hpa
          have hpL : p ∈ L := by rw [hpe, List.getD_eq_getElem?_getD, List.getElem?_eq_getElem hjl]; exact List.getElem_mem hjl
          obtain ⟨hpk, hps⟩ := HLP.out p hpL
          have HTK := Lib.hid (show mgTo M0 (L.take (j + 1)) = if ckP p then insP p (mgTo M0 (L.take j)) else mgTo M0 (L.take j) by rw [take_snocP L j hjl, mgTo_snoc, hpe])
          generalize mgTo M0 (L.take j) = M at *
          have HPA := Lib.hid hpa
          have HPK := Lib.hid hpk
          have HPS := Lib.hid hps
          have HBI := Lib.hid hbi
          have HMI := Lib.hid hmi
          have HN2 := Lib.hid hn2
          have HJL := Lib.hid hjl
          clear hat hpe hpa hpL hpk hps hbi hmi hn2 hjl hab
          go_upto_region 8 with (first
            | (refine wpList_loadA rfl 33 (.tmp 22) rfl (ad2.add (j * 5)) rfl (pcL p) _ HPA.out Try.underlying33 rfl (pcLn p) ?_)
            | (refine wpList_store_rowTo rfl 33 (.tmp 7) (.tmp 23) rfl rfl wi.heap.size (pcV p) rfl rfl 33 zPc (by exact heap_alloc_new _ _) (pcInfo p) rfl (pcV_one p) ?_))
          obtain ⟨Y, hY⟩ : ∃ Y, Y = (wi.alloc (Obj.cells zPc 33)).setRow wi.heap.size (pcV p) := ⟨_, rfl⟩
          have hnr := new_rowP wi 33 zPc (pcV p)
          rw [← hY] at hnr ⊢
          have HB1 := Lib.hid hnr.1
          have HBY := Lib.hid (HBI.out.trans (hnr.2.mono HBI.out.size))
          have HMY := Lib.hid (HMI.out.next hnr.2)
          clear hnr hY HPA HMI HBI
          generalize wi.heap.size = g1 at *
          have HCK := Lib.hid (pcheck_c p Y HPS.out)
          by_cases hck : ckP p = true
          · have HIN := Lib.hid (ckP_in hck HPK.out)
            have hE : pcE p = 0 := by unfold pcE; rw [if_pos hck]
            rw [hE] at HCK
            have htk := HTK.out
            rw [if_pos hck] at htk
            have HTK2 := Lib.hid htk
            clear htk HTK hE hck HPK
            go_upto_region 10 with (first
              | (refine wpList_store_rowTo rfl 45 (.tmp 8) (.tmp 31) rfl rfl w3.heap.size (plC p) rfl rfl 45 zPl (by exact heap_alloc_new _ _) (plInfo p) rfl (plC_one p) ?_)
              | (refine wpList_loadA rfl 33 (.tmp 7) rfl ⟨g1, 0, none⟩ rfl (pcL p) _ (atA_blk HB1.out) Try.underlying33 rfl (pcLn p) ?_)
              | (go_at_call 15; (refine HCK.out.mono ?_); rintro e w3 ⟨rfl, hb3⟩; have HB3 := Lib.hid hb3; have c0 : w3.cell? ⟨g1, 0, none⟩ = some (.string p.s) := ((HB1.out.below hb3 HB1.out.lt).cell 0).trans rfl; have c1 : w3.cell? ⟨g1, 1, none⟩ = some (.int .i64 p.t) := ((HB1.out.below hb3 HB1.out.lt).cell 1).trans rfl; clear hb3))
            obtain ⟨Y2, hY2⟩ : ∃ Y2, Y2 = (w3.alloc (Obj.cells zPl 45)).setRow w3.heap.size (plC p) := ⟨_, rfl⟩
            have hnr := new_rowP w3 45 zPl (plC p)
            rw [← hY2] at hnr ⊢
            have HP2 := Lib.hid hnr.1
            have HB12 := Lib.hid ((HB1.out.below HB3.out HB1.out.lt).below hnr.2 (Nat.lt_of_lt_of_le HB1.out.lt HB3.out.size))
            have HBY2 := Lib.hid ((HBY.out.trans (HB3.out.mono HBY.out.size)).trans (hnr.2.mono (Nat.le_trans HBY.out.size HB3.out.size)))
            have HMY2 := Lib.hid ((HMY.out.next HB3.out).next hnr.2)
            clear hnr hY2 HB1 HB3 HBY HMY HCK c0 c1
            generalize w3.heap.size = g2 at *
            have hlook := HMY2.out.look placeMapU HIN.out
            rcases hlook with ⟨q, hq, hqs, hrun⟩ | ⟨hno, hrun⟩
            · change (Instr.lookup 42 (.map (some w.heap.size)) (.agg (plK p).toArray) true).run Try.prog Y2 = _ at hrun
              have HQ := Lib.hid hq
              have HQS := Lib.hid hqs
              clear hq hqs
              go_upto_region 11 with (first
                | (refine wpList_loadA rfl 45 (.tmp 8) rfl ⟨g2, 0, none⟩ rfl (plK p) _ (atA_blk HP2.out) Try.underlying45 rfl (plK_len p) ?_)
                | (refine wpList_store_rowTo rfl 33 (.tmp 9) (.tmp 36) rfl rfl Y2.heap.size (pcV q) rfl rfl 33 zPc (by exact heap_alloc_new _ _) (pcInfo q) rfl (pcV_one q) ?_))
              obtain ⟨Y3, hY3⟩ : ∃ Y3, Y3 = (Y2.alloc (Obj.cells zPc 33)).setRow Y2.heap.size (pcV q) := ⟨_, rfl⟩
              have hnr := new_rowP Y2 33 zPc (pcV q)
              rw [← hY3] at hnr ⊢
              have HQ3 := Lib.hid hnr.1
              have HB13 := Lib.hid (HB12.out.below hnr.2 HB12.out.lt)
              have HP23 := Lib.hid (HP2.out.below hnr.2 HP2.out.lt)
              have HBY3 := Lib.hid (HBY2.out.trans (hnr.2.mono HBY2.out.size))
              have HM3 := Lib.hid (HMY2.out.next hnr.2)
              clear hnr hY3 HP2 HB12 HBY2 HMY2 hrun
              generalize Y2.heap.size = g3 at *
              have HII := Lib.hid idInfo
              have c4 := cell_ext (show Y3.cell? ⟨g3, 2, none⟩ = some (.int .i64 q.v) from (HQ3.out.cell 2).trans rfl)
              have c5 := cell_ext (show Y3.cell? ⟨g1, 2, none⟩ = some (.int .i64 p.v) from (HB13.out.cell 2).trans rfl)
              obtain ⟨r, hr⟩ : ∃ r, r = rankC q p := ⟨_, rfl⟩
              have HRK := Lib.hid hr
              have hge := rank_ge q p
              rw [← hr] at hge
              clear hr
              cases hbt : better p q with
              | false =>
              have r2 : 0 ≤ r := by rw [hbt] at hge; exact of_decide_eq_true hge
              have HBT := Lib.hid hbt
              clear hge hbt
              refine wp_region_loud Y3 [50] (fun _ u W => IntsV [cmpD q.n q.d p.n p.d, cmpI q.v p.v] u W) (by kernel_rfl) (by kernel_rfl) (by kernel_rfl) (by exact idle1M HT1.out) (fun _ _ _ _ h hb => h.next hb) (Below.refl _ _).drew ?_
              repeat (first
                | (refine wpLoud_loadB rfl rfl 31 (.tmp 40) rfl g3 3 rfl (idV q.n q.d) _ (fun z => rangeAt_id (HQ3.out.below z.bel HQ3.out.lt)) Try.underlying31 rfl HII.out _ (by simp only [Act.put, List.setIfInBounds_toArray, List.set_cons_succ, List.set_cons_zero]; rfl) ?_)
                | (refine wpLoud_loadB rfl rfl 31 (.tmp 42) rfl g1 3 rfl (idV p.n p.d) _ (fun z => rangeAt_id (HB13.out.below z.bel HB13.out.lt)) Try.underlying31 rfl HII.out _ (by simp only [Act.put, List.setIfInBounds_toArray, List.set_cons_succ, List.set_cons_zero]; rfl) ?_)
                | (refine wpLoud_call 44 rfl [] (.int .i64 (cmpD q.n q.d p.n p.d)) 17 (fun g => #[.agg (idV q.n q.d), .agg (idV p.n p.d)]) rfl (fun _ _ h => by cases h) rfl (fun g w => by kernel_rfl) (fun g z hg => by
                    refine (ids_c _ _ _ _ z.wd).mono ?_
                    rintro e w' ⟨rfl, hb⟩
                    exact ⟨_, rfl, hb, rfl⟩) _ (by simp only [Act.put, List.setIfInBounds_toArray, List.set_cons_succ, List.set_cons_zero]; rfl) ?_)
                | (refine wpLoud_call 49 rfl [] (.int .i64 (cmpI q.v p.v)) 18 (fun g => #[.int .i64 q.v, .int .i64 p.v]) rfl (fun _ _ h => by cases h) rfl (fun g w => by kernel_rfl) (fun g z hg => by
                    refine (cmp_i64 _ _ z.wd).mono ?_
                    rintro e w' ⟨rfl, rfl⟩
                    exact ⟨_, rfl, Below.refl _ _, rfl⟩) _ (by simp only [Act.put, List.setIfInBounds_toArray, List.set_cons_succ, List.set_cons_zero]; rfl) ?_)
                | (refine wpLoud_make rfl (fun _ _ h => by cases h) rfl 50 rfl rfl (fun y => ⟨_, _, run_ints y.wd [cmpD q.n q.d p.n p.d, cmpI q.v p.v] #[(0, .tmp 44), (1, .tmp 49)] rfl (by kernel_rfl) (by simp) (by simp), (Below.refl _ _).alloc (Nat.le_refl _) _, ⟨_, rfl, Blk.new _ _ _⟩⟩) _ (by simp only [Act.put, List.setIfInBounds_toArray, List.set_cons_succ, List.set_cons_zero]; rfl) ?_)
                | (refine wpLoud_call 51 rfl [50] (.int .i64 r) 16 (fun g => #[g 50]) rfl (fun _ _ h => by cases h) rfl (fun g w => by kernel_rfl) (fun g z hg => by
                    refine ((hg 50 (by simp)).or_ (by simp)).mono ?_
                    rintro e w' ⟨rfl, rfl⟩
                    exact ⟨_, rfl, Below.refl _ _, by rw [HRK.out]; rfl⟩) _ (by simp only [Act.put, List.setIfInBounds_toArray, List.set_cons_succ, List.set_cons_zero]; rfl) ?_)
                | (refine wpLoud_plain rfl rfl rfl ?_; intro K hK; go_big_quiet_op; go_big_quiet_on))
              refine wpLoud_end [50] (by rfl) ?_
              intro gg z hg
              have HT5 := Lib.hid (show isTok (gg 50) = false by
                obtain ⟨g, e, _⟩ := hg 50 (by simp)
                rw [e]; rfl)
              have HBZ := Lib.hid z.bel
              generalize z.wd = Y4 at *
              simp only [fill, Act.put, List.setIfInBounds_toArray, List.set_cons_succ, List.set_cons_zero]
              clear hg c4 c5 HII
              generalize gg 50 = x50 at *
              have HM4 := Lib.hid (HM3.out.next HBZ.out)
              have HBW4 := Lib.hid (HBY3.out.trans (HBZ.out.mono HBY3.out.size))
              have hst := ins_stay HM4.out.sorted HQ.out HQS.out HBT.out
              have HST := Lib.hid hst
              clear hst
              go_wp2_with fail
              go_roundw
              case rel => exact ⟨HT5.out, j + 1, by have := HJL.out; omega, by go_num, HBW4.out, n2, by have := HN2.out; omega, by rw [HTK2.out, HST.out]; exact HM4.out⟩
              case measure => have := HJL.out; simp [intOf]; omega
              | true =>
              have r2 : ¬ 0 ≤ r := by rw [hbt] at hge; exact of_decide_eq_false hge
              have HBT := Lib.hid (one_better HM3.out.sorted HQ.out HQS.out hbt)
              clear hge hbt
              refine wp_region_loud Y3 [50] (fun _ u W => IntsV [cmpD q.n q.d p.n p.d, cmpI q.v p.v] u W) (by kernel_rfl) (by kernel_rfl) (by kernel_rfl) (by exact idle1M HT1.out) (fun _ _ _ _ h hb => h.next hb) (Below.refl _ _).drew ?_
              repeat (first
                | (refine wpLoud_loadB rfl rfl 31 (.tmp 40) rfl g3 3 rfl (idV q.n q.d) _ (fun z => rangeAt_id (HQ3.out.below z.bel HQ3.out.lt)) Try.underlying31 rfl HII.out _ (by simp only [Act.put, List.setIfInBounds_toArray, List.set_cons_succ, List.set_cons_zero]; rfl) ?_)
                | (refine wpLoud_loadB rfl rfl 31 (.tmp 42) rfl g1 3 rfl (idV p.n p.d) _ (fun z => rangeAt_id (HB13.out.below z.bel HB13.out.lt)) Try.underlying31 rfl HII.out _ (by simp only [Act.put, List.setIfInBounds_toArray, List.set_cons_succ, List.set_cons_zero]; rfl) ?_)
                | (refine wpLoud_call 44 rfl [] (.int .i64 (cmpD q.n q.d p.n p.d)) 17 (fun g => #[.agg (idV q.n q.d), .agg (idV p.n p.d)]) rfl (fun _ _ h => by cases h) rfl (fun g w => by kernel_rfl) (fun g z hg => by
                    refine (ids_c _ _ _ _ z.wd).mono ?_
                    rintro e w' ⟨rfl, hb⟩
                    exact ⟨_, rfl, hb, rfl⟩) _ (by simp only [Act.put, List.setIfInBounds_toArray, List.set_cons_succ, List.set_cons_zero]; rfl) ?_)
                | (refine wpLoud_call 49 rfl [] (.int .i64 (cmpI q.v p.v)) 18 (fun g => #[.int .i64 q.v, .int .i64 p.v]) rfl (fun _ _ h => by cases h) rfl (fun g w => by kernel_rfl) (fun g z hg => by
                    refine (cmp_i64 _ _ z.wd).mono ?_
                    rintro e w' ⟨rfl, rfl⟩
                    exact ⟨_, rfl, Below.refl _ _, rfl⟩) _ (by simp only [Act.put, List.setIfInBounds_toArray, List.set_cons_succ, List.set_cons_zero]; rfl) ?_)
                | (refine wpLoud_make rfl (fun _ _ h => by cases h) rfl 50 rfl rfl (fun y => ⟨_, _, run_ints y.wd [cmpD q.n q.d p.n p.d, cmpI q.v p.v] #[(0, .tmp 44), (1, .tmp 49)] rfl (by kernel_rfl) (by simp) (by simp), (Below.refl _ _).alloc (Nat.le_refl _) _, ⟨_, rfl, Blk.new _ _ _⟩⟩) _ (by simp only [Act.put, List.setIfInBounds_toArray, List.set_cons_succ, List.set_cons_zero]; rfl) ?_)
                | (refine wpLoud_call 51 rfl [50] (.int .i64 r) 16 (fun g => #[g 50]) rfl (fun _ _ h => by cases h) rfl (fun g w => by kernel_rfl) (fun g z hg => by
                    refine ((hg 50 (by simp)).or_ (by simp)).mono ?_
                    rintro e w' ⟨rfl, rfl⟩
                    exact ⟨_, rfl, Below.refl _ _, by rw [HRK.out]; rfl⟩) _ (by simp only [Act.put, List.setIfInBounds_toArray, List.set_cons_succ, List.set_cons_zero]; rfl) ?_)
                | (refine wpLoud_plain rfl rfl rfl ?_; intro K hK; go_big_quiet_op; go_big_quiet_on))
              refine wpLoud_end [50] (by rfl) ?_
              intro gg z hg
              have HT5 := Lib.hid (show isTok (gg 50) = false by
                obtain ⟨g, e, _⟩ := hg 50 (by simp)
                rw [e]; rfl)
              have HBZ := Lib.hid z.bel
              generalize z.wd = Y4 at *
              simp only [fill, Act.put, List.setIfInBounds_toArray, List.set_cons_succ, List.set_cons_zero]
              clear hg c4 c5 HII
              generalize gg 50 = x50 at *
              have HB14 := Lib.hid (HB13.out.below HBZ.out HB13.out.lt)
              have HP24 := Lib.hid (HP23.out.below HBZ.out HP23.out.lt)
              have HM4 := Lib.hid (HM3.out.next HBZ.out)
              have HBW4 := Lib.hid (HBY3.out.trans (HBZ.out.mono HBY3.out.size))
              obtain ⟨w5, hrun5, hm5, hg5⟩ := HM4.out.store placeMapU (by have := HN2.out; unfold maxLen; omega) HIN.out HBT.out
              change (Instr.mapUpdate 42 (.map (some w.heap.size)) (.agg (plK p).toArray) (.agg (pcL p).toArray)).run Try.prog Y4 = _ at hrun5
              have HM5 := Lib.hid hm5
              have HG5 := Lib.hid hg5
              clear hm5 hg5
              go_wp2_with (first
                | (refine wpList_loadA rfl 45 (.tmp 8) rfl ⟨g2, 0, none⟩ rfl (plK p) _ (atA_blk HP24.out) Try.underlying45 rfl (plK_len p) ?_)
                | (refine wpList_loadA rfl 33 (.tmp 7) rfl ⟨g1, 0, none⟩ rfl (pcL p) _ (atA_blk HB14.out) Try.underlying33 rfl (pcLn p) ?_))
              go_roundw
              case rel => exact ⟨HT5.out, j + 1, by have := HJL.out; omega, by go_num, HBW4.out.grown HG5.out HBW4.out.size (fun k e => by injection e with e; omega), n2 + 1, by have := HN2.out; omega, by rw [HTK2.out]; exact HM5.out⟩
              case measure => have := HJL.out; simp [intOf]; omega
            · change (Instr.lookup 42 (.map (some w.heap.size)) (.agg (plK p).toArray) true).run Try.prog Y2 = _ at hrun
              have HBT := Lib.hid (show ∀ q ∈ M, samePl q p = true → better p q = true from fun q hq hs => by rw [hno q hq] at hs; cases hs)
              clear hno
              go_upto_region 11 with (first
                | (refine wpList_loadA rfl 45 (.tmp 8) rfl ⟨g2, 0, none⟩ rfl (plK p) _ (atA_blk HP2.out) Try.underlying45 rfl (plK_len p) ?_)
                | (refine wpList_store_rowTo rfl 33 (.tmp 9) (.tmp 36) rfl rfl Y2.heap.size zPc rfl rfl 33 zPc (by exact heap_alloc_new _ _) (pcInfo pc0) rfl (pcV_one pc0) ?_))
              obtain ⟨Y3, hY3⟩ : ∃ Y3, Y3 = (Y2.alloc (Obj.cells zPc 33)).setRow Y2.heap.size zPc := ⟨_, rfl⟩
              have hnr := new_rowP Y2 33 zPc zPc
              rw [← hY3] at hnr ⊢
              have HB13 := Lib.hid (HB12.out.below hnr.2 HB12.out.lt)
              have HP23 := Lib.hid (HP2.out.below hnr.2 HP2.out.lt)
              have HBY3 := Lib.hid (HBY2.out.trans (hnr.2.mono HBY2.out.size))
              have HM3 := Lib.hid (HMY2.out.next hnr.2)
              clear hnr hY3 HP2 HB12 HBY2 HMY2 hrun
              generalize Y2.heap.size = g3 at *
              refine wp_region_class (fun n => Y3.drewN n) (by kernel_rfl) (by kernel_rfl) ⟨1, rfl⟩ ?_
              repeat (go_big_quiet_step (fail))
              refine wpQuiet_nil ?_
              rintro _ ⟨nq, rfl⟩
              have HBZ := Lib.hid (belowDrewN nq (Below.refl Y3.heap.size Y3))
              generalize Y3.drewN nq = Y4 at *
              have HB14 := Lib.hid (HB13.out.below HBZ.out HB13.out.lt)
              have HP24 := Lib.hid (HP23.out.below HBZ.out HP23.out.lt)
              have HM4 := Lib.hid (HM3.out.next HBZ.out)
              have HBW4 := Lib.hid (HBY3.out.trans (HBZ.out.mono HBY3.out.size))
              obtain ⟨w5, hrun5, hm5, hg5⟩ := HM4.out.store placeMapU (by have := HN2.out; unfold maxLen; omega) HIN.out HBT.out
              change (Instr.mapUpdate 42 (.map (some w.heap.size)) (.agg (plK p).toArray) (.agg (pcL p).toArray)).run Try.prog Y4 = _ at hrun5
              have HM5 := Lib.hid hm5
              have HG5 := Lib.hid hg5
              clear hm5 hg5
              go_wp2_with (first
                | (refine wpList_loadA rfl 45 (.tmp 8) rfl ⟨g2, 0, none⟩ rfl (plK p) _ (atA_blk HP24.out) Try.underlying45 rfl (plK_len p) ?_)
                | (refine wpList_loadA rfl 33 (.tmp 7) rfl ⟨g1, 0, none⟩ rfl (pcL p) _ (atA_blk HB14.out) Try.underlying33 rfl (pcLn p) ?_))
              go_roundw
              case rel => exact ⟨rfl, j + 1, by have := HJL.out; omega, by go_num, HBW4.out.grown HG5.out HBW4.out.size (fun k e => by injection e with e; omega), n2 + 1, by have := HN2.out; omega, by rw [HTK2.out]; exact HM5.out⟩
              case measure => have := HJL.out; simp [intOf]; omega
          · have hE : pcE p = 1 := by unfold pcE; rw [if_neg hck]
            rw [hE] at HCK
            have htk := HTK.out
            rw [if_neg hck] at htk
            have HTK2 := Lib.hid htk
            clear htk HTK hE hck HPK
            go_wp2_with (first
              | (refine wpList_loadA rfl 33 (.tmp 7) rfl ⟨g1, 0, none⟩ rfl (pcL p) _ (atA_blk HB1.out) Try.underlying33 rfl (pcLn p) ?_)
              | (go_at_call 15; (refine HCK.out.mono ?_); rintro e w3 ⟨rfl, hb3⟩; have HB3 := Lib.hid hb3; clear hb3))
            go_roundw
            case rel => exact ⟨HT1.out, j + 1, by have := HJL.out; omega, by go_num, HBY.out.trans (HB3.out.mono HBY.out.size), n2, by have := HN2.out; omega, by rw [HTK2.out]; exact HMY.out.next HB3.out⟩
            case measure => have := HJL.out; simp [intOf]; omega
        · obtain rfl : j = L.length := by omega
          have r1 : ¬ (L.length : Int) < (L.length : Int) := by omega
          have HBI := Lib.hid hbi
          have HN2 := Lib.hid hn2
          have hmi2 := hmi
          rw [List.take_length, ← HFL.out] at hmi2
          have HMI := Lib.hid hmi2
          clear hbi hn2 hmi hmi2
          go_wp2_with fail
          go_roundw
          case rel => exact ⟨HT1.out, k + 1, by have := HLT.out; omega, by go_num, HBI.out, n2, by have := HN2.out; have := HL1.out; omega, HMI.out⟩
          case measure => have := HLT.out; simp [intOf]; omega
    · obtain rfl : k = Ls.length := by omega
      have q1 : ¬ (Ls.length : Int) < (Ls.length : Int) := by omega
      rw [List.take_length] at hmr
      have HML := Lib.hid (show (mgTo [] Ls.flatten).length ≤ 1000000 by
        have h1 := merge_len Ls.flatten
        have h2 : Ls.flatten.length ≤ Ls.length * 1000 := flat_len Ls 1000 (fun L hL => (HP.out L hL).1)
        unfold mergeL at h1
        omega)
      have HBR := Lib.hid hbr
      have HMR := Lib.hid hmr
      have HNK := Lib.hid hn
      clear hbr hmr hn
      go_wp2_with (first
        | (go_at_call 20; (refine (valsV_c (some w.heap.size) wr).mono ?_); rintro e w2 ⟨rfl, h2⟩; have hb2 : Below wr.heap.size wr w2 := (by rw [h2]; exact (Below.refl _ _).alloc (Nat.le_refl _) _); have hc2 : w2.cell? ⟨wr.heap.size, 0, none⟩ = some (.map (some w.heap.size)) := (by rw [h2]; exact (Blk.new wr _ _).cell 0); have hs2 : wr.heap.size < w2.heap.size := (by rw [h2]; simp); have HB2 := Lib.hid hb2; have HC2 := Lib.hid hc2; have HS2 := Lib.hid hs2; clear h2 hb2 hc2 hs2)
        | (go_at_call 19; (refine (sorted_c w.heap.size n (mgTo [] Ls.flatten) (by have := HNK.out; have := HLEN.out; omega) wr.heap.size w2 HS2.out HC2.out (HMR.out.next HB2.out) HML.out).mono ?_); rintro e w3 ⟨v, rfl, h3, h4⟩; have H3 := Lib.hid h3; have H4 := Lib.hid h4; clear h3 h4))
      go_ret
      have hb := HBR.out.trans (HB2.out.mono HBR.out.size)
      exact ⟨v, rfl, own_base_le H3.out hb.size, hb.trans (H4.out.mono hb.size)⟩
end Go.Proofs.Ytihbjnjpomljjaa
/- Contracts: which id is above, which piece stands ahead (the document's). -/
namespace Go.Proofs.Ytihbjnjpomljjaa
set_option maxRecDepth 100000
open Go.RowKit
set_option linter.unusedVariables false
set_option linter.unusedSimpArgs false
def abvB (n d n2 d2 : Nat) : Bool := decide (n2 < n) || ((n == n2) && decide (d2 < d))
theorem abv_cmp (n d n2 d2 : Nat) : abvB n d n2 d2 = decide (0 < cmpD n d n2 d2) := by
  rw [Bool.eq_iff_iff, decide_eq_true_iff]
  unfold abvB cmpD
  simp only [Bool.or_eq_true, Bool.and_eq_true, decide_eq_true_eq, beq_iff_eq, orL, cmpI]
  split <;> (try split) <;> (try split) <;> (try split) <;> omega
theorem idLn (n d : Nat) : (Try.prog.info? 31).map (·.size) = some (idV n d).size := by
  show _ = some 2
  kernel_rfl
set_option maxRecDepth 100000 in
set_option maxHeartbeats 4000000 in
theorem rabove_c (n d n2 d2 : Nat) (w : World) : Calls Try.prog 14 #[.agg (idV n d), .agg (idV n2 d2)] w fun e w' => e = .returned (.bool (abvB n d n2 d2)) ∧ Below w.heap.size w w' := by
  have HLP := Lib.hid (show abvB n d n2 d2 = (decide (n2 < n) || ((n == n2) && decide (d2 < d))) from rfl)
  generalize abvB n d n2 d2 = b at *
  obtain ⟨y, hy⟩ : ∃ y, ((n : Int) == (n2 : Int)) = y := ⟨_, rfl⟩
  have HY := Lib.hid hy
  go_enter Try.func14, Try.ntmps14
  go_upto_region 1 with (first
    | (refine Go.Great.wpList_boxTo rfl 31 (.tmp 0) rfl (some 2) rfl w.heap.size rfl (idV n d) rfl ?_)
    | (refine Go.Great.wpList_boxTo rfl 31 (.tmp 1) rfl (some 3) rfl (w.heap.size + 1) (by simp) (idV n2 d2) rfl ?_))
  obtain ⟨Z, hZ⟩ : ∃ Z, Z = (w.alloc (Obj.cells (idV n d) 31)).alloc (Obj.cells (idV n2 d2) 31) := ⟨_, rfl⟩
  have h1 := show Blk Z w.heap.size 31 (idV n d) by rw [hZ]; exact (Blk.new w _ _).alloc _
  have h2 := show Blk Z (w.heap.size + 1) 31 (idV n2 d2) by rw [hZ]; exact heap2P w _ _
  have HB := Lib.hid (show Below w.heap.size w Z by rw [hZ]; exact ((Below.refl _ _).alloc (Nat.le_refl _) _).alloc (by simp) _)
  rw [← hZ]
  clear hZ
  have c0 : Z.cell? ⟨w.heap.size, 0, none⟩ = some (.int .u64 (n : Int)) := (h1.cell 0).trans rfl
  have c1 : Z.cell? ⟨w.heap.size, 1, none⟩ = some (.int .u16 (d : Int)) := (h1.cell 1).trans rfl
  have c2 : Z.cell? ⟨w.heap.size + 1, 0, none⟩ = some (.int .u64 (n2 : Int)) := (h2.cell 0).trans rfl
  have c3 : Z.cell? ⟨w.heap.size + 1, 1, none⟩ = some (.int .u16 (d2 : Int)) := (h2.cell 1).trans rfl
  clear h1 h2
  by_cases q1 : n2 < n
  · have HQ := Lib.hid q1
    cases y <;> (go_wp2_with fail; go_ret; exact ⟨by rw [HLP.out, decide_eq_true HQ.out]; simp, HB.out⟩)
  · have HQ := Lib.hid q1
    cases y with
    | true =>
      have he : n = n2 := by have := HY.out; rw [beq_iff_eq] at this; omega
      have HE := Lib.hid he
      clear he
      go_wp2_with fail
      go_ret
      exact ⟨by rw [HLP.out, decide_eq_false HQ.out, beq_iff_eq.2 HE.out]; simp, HB.out⟩
    | false =>
      have he : ¬ n = n2 := by have h := HY.out; intro e; rw [e] at h; simp at h
      have HE := Lib.hid he
      clear he
      go_wp2_with fail
      go_ret
      exact ⟨by rw [HLP.out, decide_eq_false HQ.out, beq_eq_false_iff_ne.2 HE.out]; simp, HB.out⟩
theorem less_self (p : Pc) : lessP p p = false := by
  unfold lessP
  rw [decide_eq_false_iff_not, cmpP_neg, ltS_irr]
  unfold rankLt
  rintro (h | ⟨_, h⟩)
  · cases h
  · omega
end Go.Proofs.Ytihbjnjpomljjaa
/- A slice of slices of pieces; contract: the document's example of layer 13. -/
namespace Go.Proofs.Ytihbjnjpomljjaa
set_option maxRecDepth 100000
open Go.RowKit
set_option linter.unusedVariables false
set_option linter.unusedSimpArgs false
theorem sliceInfo : (Try.prog.info? 22).map (fun i => (i.zero, i.size, i.bytes)) = some (some (.slice none 0 0), 1, 24) := by kernel_rfl
theorem run_lists (w : World) (vs : List Value) (hv : ∀ v ∈ vs, ∃ A n c, v = .slice A n c) {o : Oper} {ρ : Operand → Value} (xs : Array (Nat × Operand)) (ho : o.op = .buildSlice 25 vs.length xs)
    (hx : (xs.map fun (p : Nat × Operand) => (p.1, ρ p.2)).toList = ((vs.zipIdx 0).map fun x => (x.2, x.1))) (hlen : vs.length ≤ 1000) (hpos : 0 < vs.length) :
    (execOp ρ o).run Try.prog w = .ok (.value (.slice (some ⟨w.heap.size, 0, none⟩) vs.length vs.length)) (w.alloc (.cells vs.toArray 22)) := by
  obtain ⟨i0, hi, hz0, hz1, hz2⟩ := info_parts sliceInfo
  have h1 := run_buildSlice (P := Try.prog) w 25 22 vs.length (xs.map fun (p : Nat × Operand) => (p.1, ρ p.2)) vs.toArray i0 _ Try.underlying25 hi hz0 (by rw [hz1]; omega) (by rw [hz1]; omega) (by
    rw [hz1]
    refine (congrArg _ hx).trans ?_
    exact (Great.fill_flat vs _ (fun v hm => by
      obtain ⟨A, n, c, rfl⟩ := hv v hm
      rfl) (by simp)))
  unfold execOp
  simp only [ho, Sem.run_bind, h1, Result.andThen_ok]
  rfl
theorem lsAt_blk {W : World} {g : Nat} {vs : List Value} {Ls : List (List Pc)} (h : Blk W g 22 vs.toArray) (hv : ∀ i, i < Ls.length → ∃ Ai ci, vs[i]? = some (.slice Ai (Ls.getD i []).length ci) ∧ (Ls.getD i []).length ≤ ci ∧ RdP W W.heap.size Ai (Ls.getD i [])) : LsAt W (some ⟨g, 0, none⟩) Ls := fun i hi => by
  obtain ⟨Ai, ci, h1, h2, h3⟩ := hv i hi
  refine ⟨_, Ai, ci, rfl, h.lt, ?_, h2, h3⟩
  rw [Addr.add_mid, Nat.zero_add, h.cell]
  simpa using h1
theorem rdP_blk {W : World} {g : Nat} {l : List Pc} (h : Blk W g 33 (pcs l).toArray) : RdP W W.heap.size (some ⟨g, 0, none⟩) l := fun _ => ⟨_, rfl, h.lt, atA_blk h⟩
def aw1 : Pc := ⟨⟨#[97]⟩, 1, 5, 1, 0⟩
def aw2 : Pc := ⟨⟨#[97]⟩, 1, 6, 2, 0⟩
theorem aw_merge : mergeL [[aw1], [aw2]].flatten = [aw2] := by
  have hs : samePl aw1 aw2 = true := (samePl_iff _ _).2 ⟨rfl, rfl⟩
  have hb : better aw2 aw1 = true := by rw [better_iff]; left; decide
  have h1 : ckP aw1 = true := rfl
  have h2 : ckP aw2 = true := rfl
  show mgTo [] [aw1, aw2] = _
  rw [mgTo, mgTo, mgTo, if_pos h1, if_pos h2, insP, insP, if_pos hs, if_pos hb]
theorem aw_ok (p : Pc) (h : p = aw1 ∨ p = aw2) : PcOk p ∧ p.s.size ≤ 9223372036854775807 := by
  rcases h with rfl | rfl <;> exact ⟨⟨by decide, by decide, by decide, by decide, by decide, by decide⟩, by decide⟩
end Go.Proofs.Ytihbjnjpomljjaa
/- Contract: block.Cut. -/
namespace Go.Proofs.Ytihbjnjpomljjaa
set_option maxRecDepth 100000
open Go.RowKit
set_option linter.unusedVariables false
set_option linter.unusedSimpArgs false
theorem run_l1 (w : World) (A : Option Addr) (n c : Nat) {o : Oper} {ρ : Operand → Value} (x : Operand) (ho : o.op = .buildSlice 25 1 #[(0, x)]) (hx : ρ x = .slice A n c) :
    (execOp ρ o).run Try.prog w = .ok (.value (.slice (some ⟨w.heap.size, 0, none⟩) 1 1)) (w.alloc (.cells #[.slice A n c] 22)) :=
  run_lists w [.slice A n c] (by intro v hv; simp at hv; subst hv; exact ⟨_, _, _, rfl⟩) #[(0, x)] ho (by simp [hx]) (by simp) (by simp)
section
variable {P : Program} {ops : Array Oper} {Q : Exit → Act → World → Prop} {rest : List Oper} {o : Oper} {a : Act}
theorem wpList_l1 {w : World} (x : Operand) (ho : o.op = .buildSlice 25 1 #[(0, x)]) (A : Option Addr) (n c : Nat) (hx : a.eval x = .slice A n c) (hw : Region.wanted o (yielded ops a.tmps) = true)
    (h : wpList Try.prog ops Q rest (a.put o.dst (.slice (some ⟨w.heap.size, 0, none⟩) 1 1)) (w.alloc (.cells #[.slice A n c] 22))) : wpList Try.prog ops Q (o :: rest) a w :=
  wpList_valM hw _ _ (run_l1 w A n c x ho hx) h
end
/-- groups, each a slice of pieces that lie in memory -/
def GsV (W : World) (xs : List Value) (gs : List (List Pc)) : Prop := xs.length = gs.length ∧ ∀ i, i < gs.length → ∃ Ai ci, xs[i]? = some (.slice Ai (gs.getD i []).length ci) ∧ (gs.getD i []).length ≤ ci ∧ RdP W W.heap.size Ai (gs.getD i [])
theorem GsV.next {W W' : World} {xs : List Value} {gs : List (List Pc)} (h : GsV W xs gs) (hb : Below W.heap.size W W') : GsV W' xs gs := ⟨h.1, fun i hi => by
  obtain ⟨Ai, ci, h1, h2, h3⟩ := h.2 i hi
  exact ⟨Ai, ci, h1, h2, (Rd.below (show Rd W W.heap.size Ai (pcs _) from h3) hb).more hb.size⟩⟩
theorem GsV.snoc {W : World} {xs : List Value} {gs : List (List Pc)} {A : Option Addr} {c : Nat} {g : List Pc} (h : GsV W xs gs) (hc : g.length ≤ c) (hr : RdP W W.heap.size A g) : GsV W (xs ++ [.slice A g.length c]) (gs ++ [g]) := by
  refine ⟨by simp [h.1], fun i hi => ?_⟩
  by_cases hl : i < gs.length
  · obtain ⟨Ai, ci, h1, h2, h3⟩ := h.2 i hl
    have e : (gs ++ [g]).getD i [] = gs.getD i [] := by rw [List.getD_eq_getElem?_getD, List.getElem?_append_left hl, List.getD_eq_getElem?_getD]
    rw [e]
    exact ⟨Ai, ci, by rw [List.getElem?_append_left (by rw [h.1]; exact hl)]; exact h1, h2, h3⟩
  · have hi' : i = gs.length := by simp at hi; omega
    subst hi'
    have e : (gs ++ [g]).getD gs.length [] = g := by rw [List.getD_eq_getElem?_getD, List.getElem?_append_right (Nat.le_refl _)]; simp
    rw [e]
    exact ⟨A, c, by rw [List.getElem?_append_right (by rw [h.1]; exact Nat.le_refl _)]; simp [h.1], hc, hr⟩
theorem rdP_sub {W : World} {B : Nat} {ad : Addr} {l : List Pc} (h : AtA W ad (pcs l)) (hB : ad.block < B) (k n : Nat) : RdP W B (some (ad.add (k * 5))) ((l.drop k).take n) := fun _ => ⟨_, rfl, by rw [add_block]; exact hB, by
  have h1 := h.drop (k * 5) (n * 5)
  rw [← pcs_drop, ← pcs_take] at h1
  exact h1⟩
def lenV : Value → Nat
  | .slice _ n _ => n
  | _ => 0
structure CutI (W1 : World) (gs : List (List Pc)) (xs : List Value) (wr : World) (ov : Value) : Prop where
  own : OwnG wr W1.heap.size ov xs
  bel : Below W1.heap.size W1 wr
  gv : GsV W1 xs gs
theorem CutI.next {W1 wr wr' : World} {gs : List (List Pc)} {xs : List Value} {ov : Value} (h : CutI W1 gs xs wr ov) (hb : Below wr.heap.size wr wr') : CutI W1 gs xs wr' ov :=
  ⟨h.own.next hb, h.bel.trans (hb.mono h.bel.size), h.gv⟩
set_option maxRecDepth 100000 in
set_option maxHeartbeats 16000000 in
theorem cut_c (A : Option Addr) (cap : Nat) (l : List Pc) (w : World) (hr : RdP w w.heap.size A l) (hc : l.length ≤ cap) (hl : l.length ≤ 1000) (hk : ∀ p ∈ l, PcOk p ∧ p.s.size ≤ 9223372036854775807) :
    Calls Try.prog 6 #[.slice A l.length cap] w fun e w' => ∃ v xs, e = .returned v ∧ OwnG w' w.heap.size v xs ∧ GsV w' xs (cutG (mergeL l)) ∧ Below w.heap.size w w' := by
  obtain ⟨i0, hib, hz0, hz1, hz2⟩ := info_parts grpInfo
  have hml := merge_len l
  have hks : ∀ p ∈ mergeL l, p.s.size ≤ 1000000 := fun p hp => by
    have h := ((mem_merge l p).1 hp).2.1
    unfold ckP at h
    simp only [Bool.and_eq_true, decide_eq_true_eq] at h
    omega
  have HKS := Lib.hid hks
  have HL0 := Lib.hid (show LsAt (w.alloc (.cells #[.slice A l.length cap] 22)) (some ⟨w.heap.size, 0, none⟩) [l] from
    lsAt_blk (vs := [.slice A l.length cap]) (Blk.new _ _ _) (fun i hi => match i, hi with
      | 0, _ => ⟨_, _, rfl, hc, (Rd.below (show Rd w w.heap.size A (pcs l) from hr) ((Below.refl _ _).alloc (Nat.le_refl _) _)).more (by simp)⟩))
  have mc : Calls Try.prog 10 #[.slice (some ⟨w.heap.size, 0, none⟩) 1 1] (w.alloc (.cells #[.slice A l.length cap] 22)) fun e w' => ∃ v, e = .returned v ∧ OwnP w' (w.alloc (.cells #[.slice A l.length cap] 22)).heap.size v (mergeL l) ∧ Below (w.alloc (.cells #[.slice A l.length cap] 22)).heap.size (w.alloc (.cells #[.slice A l.length cap] 22)) w' := by
    have h := merge_c (some ⟨w.heap.size, 0, none⟩) 1 [l] _ HL0.out (by simp) (by simp) (by intro L hL; simp at hL; subst hL; exact ⟨hl, hk⟩)
    rwa [show [l].flatten = l by simp] at h
  have HMC := Lib.hid mc
  have HBA := Lib.hid (show Below w.heap.size w (w.alloc (.cells #[.slice A l.length cap] 22)) from (Below.refl _ _).alloc (Nat.le_refl _) _)
  have hml2 : (mergeL l).length ≤ 1000 := by omega
  generalize mergeL l = M at *
  clear hr hk mc HL0 hks
  go_enter Try.func6, Try.ntmps6
  go_wp2_with fail
  go_step3
  go_upto_region 2 with (first
    | (refine wpList_l1 (.tmp 5) rfl A l.length cap rfl rfl ?_; generalize w.alloc (.cells #[.slice A l.length cap] 22) = W0 at *)
    | (go_at_call 10; (with_reducible refine HMC.out.mono ?_); rintro e W1 ⟨v, rfl, ho, hb⟩; obtain ⟨Am, cm, rfl, hcm, hcm2, hrm⟩ := ho.rd; have HB1 := Lib.hid (HBA.out.trans (hb.mono HBA.out.size)); have HRM := Lib.hid hrm; have HCM := Lib.hid hcm; have HCM2 := Lib.hid hcm2; clear ho hb hrm hcm hcm2))
  clear HMC HBA
  go_wp2_with fail
  go_step3
  go_wp2_with fail
  have HW1 := Lib.hid (show CutI W1 [] [] W1 (.slice none 0 0) from ⟨⟨rfl, .inl ⟨rfl, rfl⟩⟩, Below.refl _ _, ⟨rfl, fun i hi => by simp at hi⟩⟩)
  go_loopw [0, 3, 4] (fun lv ov _ wr => ∃ (gs : List (List Pc)) (xs : List Value) (R : List Pc) (A' : Option Addr) (c' : Nat), lv = .slice A' R.length c' ∧ R.length ≤ c' ∧ c' ≤ maxLen ∧ RdP W1 W1.heap.size A' R ∧ cutG M = gs ++ cutG R ∧ xs.length + R.length ≤ 1000 ∧ (∀ p ∈ R, p.s.size ≤ 1000000) ∧ CutI W1 gs xs wr ov) (fun lv _ _ _ => lenV lv)
  case atStart => exact ⟨[], [], M, Am, cm, rfl, HCM.out, HCM2.out, HRM.out, rfl, by simpa using hml2, HKS.out, HW1.out⟩
  case round =>
    rename World => wr
    rename_i ov _ _
    obtain ⟨gs, xs, R, A', c', rfl, hc1, hc2, hrd, hcg, hln, hks, hI⟩ := hrel
    have HCG := Lib.hid hcg
    have HI := Lib.hid hI
    have HKR := Lib.hid hks
    have HC1 := Lib.hid hc1
    have hcm : (c' : Int) ≤ 9223372036854775807 := by unfold maxLen at hc2; omega
    clear HW1 HRM HCM HCM2 HKS hcg hI hks
    by_cases h0 : 0 < R.length
    · have q0 : (0 : Int) < (R.length : Int) := by omega
      obtain ⟨ad, rfl, hab, hat⟩ := hrd.open_ h0
      have HAT := Lib.hid hat
      have HAB := Lib.hid hab
      have HPOS := Lib.hid (cutN_pos h0)
      have HC0 := Lib.hid (cutG_cons h0)
      have HR0 := Lib.hid h0
      clear hrd hat hab h0
      go_wp2_with fail
      have e0 : decide (0 < R.length) = true := decide_eq_true HR0.out
      rw [e0]
      clear e0
      go_loopw [0, 3, 4] (fun lv ov2 i wq => lv = .slice (some ad) R.length c' ∧ ∃ n : Nat, i = .int .i64 (n : Nat) ∧ 1 ≤ n ∧ n ≤ R.length ∧ cutN R = cutFrom R n ∧ CutI W1 gs xs wq ov2) (fun _ _ i _ => R.length - (intOf i).toNat)
      case atStart => exact ⟨rfl, 1, rfl, Nat.le_refl _, HR0.out, rfl, HI.out⟩
      case round =>
        rename World => wq
        rename_i ov2 _ _
        obtain ⟨rfl, n, rfl, hn1, hn2, hcf, hJ⟩ := hrel
        clear HI
        by_cases hlt : n < R.length
        · have r0 : (n : Int) < (R.length : Int) := by omega
          obtain ⟨N1, hN1⟩ : ∃ N1, N1 = n + 1 := ⟨_, rfl⟩
          have e1 : (n : Int) + 1 = (N1 : Int) := by omega
          have r1 : (0 : Int) ≤ (N1 : Int) := by omega
          have r2 : (N1 : Int) ≤ (R.length : Int) := by omega
          have r3 : (N1 : Int) ≤ (c' : Int) := by have := HC1.out; omega
          have r4 : decide ((N1 : Int) < 0) = false := decide_eq_false (by omega)
          have r5 : decide ((-1 : Int) < 0) = true := rfl
          have r6 : (n : Int) ≤ (c' : Int) := by omega
          have r7 : (n : Int) ≤ (R.length : Int) := by omega
          have r8 : (0 : Int) ≤ (n : Int) := by omega
          have r9 : decide ((n : Int) < 0) = false := decide_eq_false (by omega)
          have rA : ¬ c' = n := by have := HC1.out; omega
          have HN := Lib.hid hN1
          have hrl : (R.take (n + 1)).length = N1 := by rw [List.length_take]; omega
          have HRS := Lib.hid (show RdP wq wq.heap.size (some ad) (R.take (n + 1)) by
            have h := rdP_sub HAT.out HAB.out 0 (n + 1)
            rw [List.drop_zero, show ad.add (0 * 5) = ad by simp [Addr.add]] at h
            exact (Rd.below (show Rd W1 W1.heap.size (some ad) (pcs _) from h) hJ.bel).more hJ.bel.size)
          have hck := check_c (some ad) c' (R.take (n + 1)) wq HRS.out (by rw [hrl]; have := HC1.out; omega) (by rw [hrl]; omega) (fun p hp => HKR.out p (List.mem_of_mem_take hp))
          rw [hrl] at hck
          have HJ := Lib.hid hJ
          have HLT := Lib.hid hlt
          have HCF := Lib.hid hcf
          have HN1 := Lib.hid hn1
          have HLN := Lib.hid hln
          clear HRS hJ hlt hcf hrl hN1
          by_cases h0 : chkL (R.take (n + 1)) = 0
          · rw [h0] at hck
            have hck2 : Calls Try.prog 11 #[.slice (some ad) N1 c'] wq (fun e w' => e = .returned (.int .i64 0) ∧ Below wq.heap.size wq w') := hck
            have HCK := Lib.hid hck2
            have H0 := Lib.hid h0
            clear hck hck2 h0
            go_wp2_with (go_at_call 11; (with_reducible refine HCK.out.mono ?_); rintro e w3 ⟨rfl, hb⟩; have HB3 := Lib.hid hb; clear hb)
            go_roundw
            case rel => exact ⟨rfl, N1, by go_num, by have := HN.out; omega, by have := HN.out; have := HLT.out; omega, by rw [HCF.out, HN.out]; exact cutFrom_go HLT.out H0.out, HJ.out.next HB3.out⟩
            case measure => have := HLT.out; have := HN.out; simp [intOf]; omega
          · have key : ∀ kk : Int, kk = 1 ∨ kk = 3 → ((chkL (R.take (n + 1)) : Nat) : Int) = kk → ∃ kk : Int, (kk = 1 ∨ kk = 3) ∧ Calls Try.prog 11 #[.slice (some ad) N1 c'] wq (fun e w' => e = .returned (.int .i64 kk) ∧ Below wq.heap.size wq w') := fun kk h1 h2 => ⟨kk, h1, by rw [← h2]; exact hck⟩
            have hex : ∃ kk : Int, (kk = 1 ∨ kk = 3) ∧ Calls Try.prog 11 #[.slice (some ad) N1 c'] wq (fun e w' => e = .returned (.int .i64 kk) ∧ Below wq.heap.size wq w') := by
              rcases chk_vals (R.take (n + 1)) with h | h | h
              · exact absurd h h0
              · exact key 1 (.inl rfl) (by rw [h]; rfl)
              · exact key 3 (.inr rfl) (by rw [h]; rfl)
            obtain ⟨kk, hkk, hck2⟩ := hex
            have s1 : (kk != 0) = true := by rcases hkk with rfl | rfl <;> rfl
            have HCK := Lib.hid hck2
            have HCN := Lib.hid (show cutN R = n by rw [HCF.out]; exact cutFrom_here HLT.out h0)
            clear hck hck2 h0 key hkk
            go_wp2_with (first
              | (go_at_call 11; (with_reducible refine HCK.out.mono ?_); rintro e w3 ⟨rfl, hb⟩; have HJ3 := Lib.hid (HJ.out.next hb); clear hb)
              | (refine wpList_l1 (.tmp 27) rfl (some ad) n n rfl rfl ?_)
              | (at_builtin; refine wpList_app _ rfl (.tmp 23) (.tmp 28) _ rfl W1.heap.size 22 i0 (.slice none 0 0) 1 24 Try.underlying25 hib hz0 hz1 hz2 rfl (by decide) _ _ xs rfl (HJ3.out.own.alloc _) _ (some ⟨w3.heap.size, 0, none⟩) 1 1 [.slice (some ad) n n] rfl rfl (by exact rd_new w3 [.slice (some ad) n n] _ (0, 0)) (by intro u hu; rw [List.mem_singleton.1 hu]; rfl) (by have := HLN.out; omega) (by have := HLN.out; omega) (by have := HJ3.out.bel.size; simp; omega) ?_
                 intro v' w4 hap
                 have HAP := Lib.hid hap
                 clear hap))
            go_roundw
            case rel =>
              have hnl : n < R.length := HLT.out
              have hbel : Below W1.heap.size W1 w4 := (HJ3.out.bel.alloc HJ3.out.bel.size _).trans (HAP.out.below (HJ3.out.own.alloc _) (by have := HJ3.out.bel.size; simp; omega))
              have hg0 := rdP_sub HAT.out HAB.out 0 n
              rw [List.drop_zero, show ad.add (0 * 5) = ad by simp [Addr.add]] at hg0
              have htl : (R.take n).length = n := by rw [List.length_take]; omega
              have hgv := GsV.snoc (c := n) HJ3.out.gv (by rw [htl]; exact Nat.le_refl _) hg0
              rw [htl] at hgv
              have hd := rdP_sub HAT.out HAB.out n (R.length - n)
              rw [List.take_of_length_le (by rw [List.length_drop]; exact Nat.le_refl _)] at hd
              refine ⟨gs ++ [R.take n], xs ++ [.slice (some ad) n n], R.drop n, some (ad.add (n * 5)), c' - n, ?_, ?_, ?_, hd, ?_, ?_, fun p hp => HKR.out p (List.mem_of_mem_drop hp), ⟨OwnG.snoc HAP.out, hbel, hgv⟩⟩
              · rw [List.length_drop]
              · rw [List.length_drop]; have := HC1.out; omega
              · omega
              · rw [HCG.out, HC0.out, HCN.out, List.append_assoc]; rfl
              · rw [List.length_append, List.length_drop]; have := HLN.out; have := HN1.out; simp; omega
            case measure =>
              have := HLT.out
              have := HN1.out
              show R.length - n < R.length
              omega
        · have hne : n = R.length := by omega
          have r0 : ¬ (n : Int) < (R.length : Int) := by omega
          have HJ := Lib.hid hJ
          have HCN := Lib.hid (show cutN R = R.length by rw [hcf]; exact cutFrom_end hlt)
          have HLN := Lib.hid hln
          clear hJ hcf hlt
          go_wp2_with (first
            | (refine wpList_l1 (.tmp 34) rfl (some ad) R.length c' rfl rfl ?_)
            | (at_builtin; refine wpList_app _ rfl (.tmp 33) (.tmp 35) _ rfl W1.heap.size 22 i0 (.slice none 0 0) 1 24 Try.underlying25 hib hz0 hz1 hz2 rfl (by decide) _ _ xs rfl (HJ.out.own.alloc _) _ (some ⟨wq.heap.size, 0, none⟩) 1 1 [.slice (some ad) R.length c'] rfl rfl (by exact rd_new wq [.slice (some ad) R.length c'] _ (0, 0)) (by intro u hu; rw [List.mem_singleton.1 hu]; rfl) (by have := HLN.out; have := HR0.out; omega) (by have := HLN.out; have := HR0.out; omega) (by have := HJ.out.bel.size; simp; omega) ?_
               intro v' w4 hap
               have HAP := Lib.hid hap
               clear hap))
          try rw [Exit.noGoto_ret]
          go_ret
          have hbel : Below W1.heap.size W1 w4 := (HJ.out.bel.alloc HJ.out.bel.size _).trans (HAP.out.below (HJ.out.own.alloc _) (by have := HJ.out.bel.size; simp; omega))
          have hg0 := rdP_sub HAT.out HAB.out 0 R.length
          rw [List.drop_zero, show ad.add (0 * 5) = ad by simp [Addr.add], List.take_length] at hg0
          have hgv := GsV.snoc (c := c') HJ.out.gv HC1.out hg0
          refine ⟨v', xs ++ [.slice (some ad) R.length c'], rfl, own_base_le (OwnG.snoc HAP.out) HB1.out.size, ?_, HB1.out.trans (hbel.mono HB1.out.size)⟩
          rw [HCG.out, HC0.out, HCN.out, List.take_length, List.drop_length, cutG_nil (by simp)]
          exact hgv.next hbel
    · have q0 : ¬ (0 : Int) < (R.length : Int) := by omega
      have HE := Lib.hid (cutG_nil h0)
      clear h0 hrd
      go_wp2_with fail
      try rw [Exit.noGoto_ret]
      go_ret
      refine ⟨_, xs, rfl, own_base_le HI.out.own HB1.out.size, ?_, HB1.out.trans (HI.out.bel.mono HB1.out.size)⟩
      rw [HCG.out, HE.out, List.append_nil]
      exact HI.out.gv.next HI.out.bel
end Go.Proofs.Ytihbjnjpomljjaa
/- Contract: piece.Between, of a span that holds all. -/
namespace Go.Proofs.Ytihbjnjpomljjaa
set_option maxRecDepth 100000
open Go.RowKit
set_option linter.unusedVariables false
set_option linter.unusedSimpArgs false
theorem OwnP.allocM {w : World} {base : Nat} {v : Value} {l : List Pc} (h : OwnP w base v l) (o : Obj) : OwnP (w.alloc o) base v l := World.ownsRow.alloc h o
theorem OwnP.nilM (w : World) (base : Nat) : OwnP w base (.slice none 0 0) [] := ⟨rfl, .inl ⟨rfl, rfl⟩⟩
theorem OwnP.appM {w w' : World} {base : Nat} {v v' : Value} {l m : List Pc} (h : Apped w base 33 5 v w' v' (l.length + m.length) (pcs l ++ pcs m)) : OwnP w' base v' (l ++ m) := by
  have h1 := h.own
  unfold OwnP
  rw [List.length_append, pcs_app]
  exact h1
end Go.Proofs.Ytihbjnjpomljjaa
/- Contract: the example of layer 17; what block.Cut hands back. -/
namespace Go.Proofs.Ytihbjnjpomljjaa
set_option maxRecDepth 100000
open Go.RowKit
set_option linter.unusedVariables false
set_option linter.unusedSimpArgs false
theorem cutS_c (A : Option Addr) (cap : Nat) (l : List Pc) (w : World) (hr : RdP w w.heap.size A l) (hc : l.length ≤ cap) (hl : l.length ≤ 1000) (hk : ∀ p ∈ l, PcOk p ∧ p.s.size ≤ 9223372036854775807) :
    Calls Try.prog 6 #[.slice A l.length cap] w fun e w' => ∃ B c, e = .returned (.slice B (cutG (mergeL l)).length c) ∧ (cutG (mergeL l)).length ≤ c ∧ c ≤ maxLen ∧ LsAt w' B (cutG (mergeL l)) ∧ Below w.heap.size w w' := by
  refine (cut_c A cap l w hr hc hl hk).mono ?_
  rintro e w' ⟨v, xs, rfl, ho, hg, hb⟩
  obtain ⟨B, c, rfl, h1, h2, h3⟩ := gv_rd ho
  refine ⟨B, c, by rw [hg.1], by rw [← hg.1]; exact h1, h2, fun i hi => ?_, hb⟩
  obtain ⟨Ai, ci, q1, q2, q3⟩ := hg.2 i hi
  obtain ⟨ad, e1, e2, e3⟩ := h3 (by intro h0; rw [h0] at q1; simp at q1)
  exact ⟨ad, Ai, ci, e1, e2, e3 i _ q1, q2, q3⟩
theorem cutAw_c (A : Option Addr) (cap : Nat) (w : World) (hr : RdP w w.heap.size A (awL 0 300)) (hc : 300 ≤ cap) :
    Calls Try.prog 6 #[.slice A 300 cap] w fun e w' => ∃ ad c A0 c0 A1 c1 A2 c2, e = .returned (.slice (some ad) 3 c) ∧ w'.cell? ad = some (.slice A0 127 c0) ∧ w'.cell? ⟨ad.block, ad.off + 1, none⟩ = some (.slice A1 127 c1) ∧ w'.cell? ⟨ad.block, ad.off + 2, none⟩ = some (.slice A2 46 c2) ∧ Below w.heap.size w w' := by
  have h := cutS_c A cap (awL 0 300) w hr (by rw [awL_len]; exact hc) (by rw [awL_len]; decide) (fun p hp => aw_okP hp (by decide))
  rw [awL_len, aw_merge300] at h
  refine h.mono ?_
  rintro e w' ⟨B, c, rfl, h1, h2, h3, hb⟩
  obtain ⟨ad, A0, c0, rfl, g0, k0, _⟩ := h3 0 (by decide)
  obtain ⟨ad1, A1, c1, e1, g1, k1, _⟩ := h3 1 (by decide)
  obtain ⟨ad2, A2, c2, e2, g2, k2, _⟩ := h3 2 (by decide)
  cases e1
  cases e2
  simp only [List.getD_cons_zero, List.getD_cons_succ, awL_len] at k0 k1 k2
  rw [show ad.add 0 = ad by simp [Addr.add]] at k0
  exact ⟨ad, c, A0, c0, A1, c1, A2, c2, rfl, k0, k1, k2, hb⟩
set_option maxRecDepth 100000 in
set_option maxHeartbeats 8000000 in
theorem awake17_c (w : World) : Calls Try.prog 5 #[] w (Yes w) := by
  obtain ⟨i0, hi, hz0, hz1, hz2⟩ := piece_parts
  go_enter Try.func5, Try.ntmps5
  go_wp2_with fail
  go_loopw [1, 2] (fun lv iv wr => ∃ k : Nat, k ≤ 300 ∧ iv = .int .i64 (k : Nat) ∧ OwnP wr w.heap.size lv (awL 0 k) ∧ Below w.heap.size w wr) (fun _ iv _ => 300 - (intOf iv).toNat)
  case atStart => exact ⟨0, by omega, rfl, OwnP.nilM _ _, Below.refl _ _⟩
  case round =>
    rename World => wr
    obtain ⟨k, hk, rfl, ho, hb⟩ := hrel
    by_cases hlt : k < 300
    · have q1 : (k : Int) < 300 := by omega
      have HO := Lib.hid ho
      have HB := Lib.hid hb
      have HK := Lib.hid hlt
      have HLN := Lib.hid (awL_len 0 k)
      have HSN := Lib.hid (awL_snoc k)
      clear ho hb hk hlt
      generalize awL 0 k = L at *
      go_wp2_with (first
        | (refine wpList_valM rfl _ _ (run_onePc wr (awP k) (.tmp 10) rfl (by rfl)) ?_)
        | (at_builtin; refine wpList_app _ rfl (.tmp 8) (.tmp 11) _ rfl w.heap.size 33 i0 (.agg zPc) 5 48 Try.underlying22 hi hz0 hz1 hz2 rfl (by decide) _ L.length (pcs L) rfl (HO.out.allocM _) _ (some ⟨wr.heap.size, 0, none⟩) 1 1 (pcs [awP k]) rfl rfl (by exact rd_new wr (pcs [awP k]) 33 (0, 0)) (pcs_oneCell _) (by rw [HLN.out]; have := HK.out; omega) (by rw [HLN.out]; have := HK.out; omega) (by have := HB.out.size; simp; omega) ?_
           intro v2 W2 hap
           have HB2 := Lib.hid ((HB.out.alloc HB.out.size _).trans (hap.below (HO.out.allocM _) (by have := HB.out.size; simp; omega)))
           have HV2 := Lib.hid (OwnP.appM (l := L) (m := [awP k]) hap)
           clear hap))
      go_roundw
      case rel => exact ⟨k + 1, HK.out, by go_num, by rw [HSN.out]; exact HV2.out, HB2.out⟩
      case measure => have := HK.out; simp [intOf]; omega
    · obtain rfl : k = 300 := by omega
      obtain ⟨A, c, e1, h1, h2, h3⟩ := ho.rd
      rw [awL_len] at e1 h1
      subst e1
      have HC := Lib.hid (cutAw_c A c wr h3 h1)
      have HB := Lib.hid hb
      clear ho hb h1 h2 h3 hk hlt
      go_upto_region 7 with (go_at_call 6; (with_reducible refine HC.out.mono ?_); rintro e W1 ⟨ad, cc, A0, c0, A1, c1, A2, c2, rfl, k0, k1, k2, hb1⟩; have HB1 := Lib.hid (HB.out.trans (hb1.mono HB.out.size)); clear hb1)
      go_wp2_with fail
      go_ret
      exact ⟨rfl, HB1.out⟩
end Go.Proofs.Ytihbjnjpomljjaa
/- Contract: whether two rows of pieces are the same. -/
namespace Go.Proofs.Ytihbjnjpomljjaa
set_option maxRecDepth 100000
open Go.RowKit
set_option linter.unusedVariables false
set_option linter.unusedSimpArgs false
def eqP (p q : Pc) : Bool := (p.s.toList == q.s.toList) && ((p.t == q.t) && ((p.v == q.v) && ((p.n == q.n) && (p.d == q.d))))
theorem eqP_iff (p q : Pc) : eqP p q = true ↔ p = q := by
  unfold eqP
  simp only [Bool.and_eq_true, beq_iff_eq]
  constructor
  · rintro ⟨h1, h2, h3, h4, h5⟩
    cases p; cases q
    simp only at h1 h2 h3 h4 h5
    rw [toList_inj h1, h2, h3, h4, h5]
  · rintro rfl; simp
theorem int_beq (a b : Nat) : ((a : Int) == (b : Int)) = (a == b) := by
  rw [Bool.eq_iff_iff, beq_iff_eq, beq_iff_eq]; omega
set_option maxRecDepth 100000 in
theorem run_eq_id (n d n2 d2 : Nat) (w : World) (D : Nat) :
    (Op.equalIn (D + 2) 31 (.agg (idV n d)) (.agg (idV n2 d2))).run Try.prog w = .ok ((n == n2) && (d == d2)) w := by
  have hf : ∃ f0 f1 : Field, Try.prog.underlying 31 = some (.struct #[f0, f1]) ∧ f0.offset = 0 ∧ f1.offset = 1 ∧ f0.type = 28 ∧ f1.type = 29 ∧ f0.name ≠ "_" ∧ f1.name ≠ "_" := ⟨_, _, Try.underlying31, rfl, rfl, rfl, rfl, by decide, by decide⟩
  obtain ⟨f0, f1, hu, o0, o1, k0, k1, n0, n1⟩ := hf
  have hF : Try.prog.fieldsOf 31 = #[f0, f1] := by unfold Program.fieldsOf; rw [hu]
  rw [run_equalIn_struct w (D + 1) _ _ _ (by rw [hF]; exact hu) (by kernel_rfl), hF]
  have p0 : ∀ (a b : Value), (part 28 #[a, b] 0).run Try.prog w = .ok a w := by intro a b; kernel_rfl
  have p1 : ∀ (a b : Value), (part 29 #[a, b] 1).run Try.prog w = .ok b w := by intro a b; kernel_rfl
  have q0 := run_equalIn_int (P := Try.prog) w D 28 .u64 .u64 (n : Int) (n2 : Int) Try.underlying28
  have q1 := run_equalIn_int (P := Try.prog) w D 29 .u16 .u16 (d : Int) (d2 : Int) Try.underlying29
  simp only [Op.eqFields, n0, n1, k0, k1, o0, o1, idV, p0, p1, q0, q1, Sem.run_bind, Sem.run_ite, Sem.run_pure, Result.andThen_ok, ne_eq, not_false_eq_true, if_true, int_beq]
  cases (n == n2) <;> cases (d == d2) <;> simp
set_option maxRecDepth 100000 in
theorem run_eq_piece (p q : Pc) (w : World) : (Op.equalIn 10000 33 (.agg (pcV p)) (.agg (pcV q))).run Try.prog w = .ok (eqP p q) w := by
  have hf : ∃ f0 f1 f2 f3 : Field, Try.prog.underlying 33 = some (.struct #[f0, f1, f2, f3]) ∧ f0.offset = 0 ∧ f1.offset = 1 ∧ f2.offset = 2 ∧ f3.offset = 3 ∧ f0.type = 9 ∧ f1.type = 2 ∧ f2.type = 2 ∧ f3.type = 31 ∧ f0.name ≠ "_" ∧ f1.name ≠ "_" ∧ f2.name ≠ "_" ∧ f3.name ≠ "_" := ⟨_, _, _, _, Try.underlying33, rfl, rfl, rfl, rfl, rfl, rfl, rfl, rfl, by decide, by decide, by decide, by decide⟩
  obtain ⟨f0, f1, f2, f3, hu, o0, o1, o2, o3, k0, k1, k2, k3, n0, n1, n2, n3⟩ := hf
  have hF : Try.prog.fieldsOf 33 = #[f0, f1, f2, f3] := by unfold Program.fieldsOf; rw [hu]
  rw [show 10000 = 9999 + 1 from rfl, run_equalIn_struct w 9999 _ _ _ (by rw [hF]; exact hu) (by kernel_rfl), hF]
  have p0 : ∀ (a b c d e : Value), (part 9 #[a, b, c, d, e] 0).run Try.prog w = .ok a w := by intro a b c d e; kernel_rfl
  have p1 : ∀ (a b c d e : Value), (part 2 #[a, b, c, d, e] 1).run Try.prog w = .ok b w := by intro a b c d e; kernel_rfl
  have p2 : ∀ (a b c d e : Value), (part 2 #[a, b, c, d, e] 2).run Try.prog w = .ok c w := by intro a b c d e; kernel_rfl
  have p3 : ∀ (a b c d e : Value), (part 31 #[a, b, c, d, e] 3).run Try.prog w = .ok (.agg #[d, e]) w := by intro a b c d e; kernel_rfl
  have q0 := run_equalIn_string (P := Try.prog) w 9998 9 p.s q.s Try.underlying9
  have q1 := run_equalIn_int (P := Try.prog) w 9998 2 .i64 .i64 p.t q.t Try.underlying2
  have q2 := run_equalIn_int (P := Try.prog) w 9998 2 .i64 .i64 p.v q.v Try.underlying2
  have q3 := run_eq_id p.n p.d q.n q.d w 9997
  simp only [idV] at q3
  simp only [Op.eqFields, n0, n1, n2, n3, k0, k1, k2, k3, o0, o1, o2, o3, pcV, pcL, p0, p1, p2, p3, q0, q1, q2, q3, Sem.run_bind, Sem.run_ite, Sem.run_pure, Result.andThen_ok, ne_eq, not_false_eq_true, if_true]
  unfold eqP
  cases (p.s.toList == q.s.toList) <;> cases (p.t == q.t) <;> cases (p.v == q.v) <;> cases (p.n == q.n) <;> cases (p.d == q.d) <;> simp
set_option maxRecDepth 100000 in
set_option maxHeartbeats 2000000 in
theorem rsameP_c (B1 B2 : Nat) (A1 A2 : Option Addr) (c1 c2 : Nat) (l : List Pc) (w : World) (hr1 : RdP w B1 A1 l) (hr2 : RdP w B2 A2 l) (hn : l.length ≤ 9223372036854775807) :
    Calls Try.prog 8 #[.slice A1 l.length c1, .slice A2 l.length c2] w (Quietly (.bool true) w) := by
  have HR1 := Lib.hid hr1
  have HR2 := Lib.hid hr2
  clear hr1 hr2
  go_enter Try.func8, Try.ntmps8
  go_wp2_with fail
  go_loopw [5] (fun i wr => ∃ k z : Nat, k ≤ l.length ∧ i = .int .i64 k ∧ wr = w.drewN z) (fun i _ => l.length - (intOf i).toNat)
  case atStart => exact ⟨0, 0, by omega, rfl, rfl⟩
  case round =>
    obtain ⟨k, z, hk, rfl, rfl⟩ := hrel
    by_cases hlt : k < l.length
    · have hr1 := HR1.out
      have hr2 := HR2.out
      obtain ⟨al, rfl, _, h1⟩ := hr1.open_ (by omega)
      obtain ⟨bl, rfl, _, h2⟩ := hr2.open_ (by omega)
      have R1 := Lib.hid (fun (W : World) (h : ∃ z, W = w.drewN z) => (show AtA W (al.add (k * 5)) (pcL (l.getD k pc0)) by obtain ⟨z, rfl⟩ := h; exact h1.piece k hlt))
      have R2 := Lib.hid (fun (W : World) (h : ∃ z, W = w.drewN z) => (show AtA W (bl.add (k * 5)) (pcL (l.getD k pc0)) by obtain ⟨z, rfl⟩ := h; exact h2.piece k hlt))
      have HSB := Lib.hid (pcLn (l.getD k pc0))
      have hkn : (k : Int) < (l.length : Int) := by omega
      have l3 : ∀ W, (Op.equalIn 10000 33 (.agg (pcV (l.getD k pc0))) (.agg (pcV (l.getD k pc0)))).run Try.prog W = .ok true W := fun W => by
        rw [run_eq_piece, (eqP_iff _ _).2 rfl]
      clear h1 h2 hr1 hr2
      generalize l.getD k pc0 = p at *
      unfold pcV at l3
      go_wp2_with fail
      refine wp_region_class (fun z => w.drewN z) (by kernel_rfl) (by kernel_rfl) ⟨z + 1, rfl⟩ ?_
      repeat (first
        | (refine wpQuiet_loadA 33 (.tmp 19) rfl rfl (al.add (k * 5)) rfl (pcL p) _ R1.out Try.underlying33 rfl HSB.out _ (by simp only [Act.put, List.setIfInBounds_toArray, List.set_cons_succ, List.set_cons_zero]; rfl) ?_)
        | (refine wpQuiet_loadA 33 (.tmp 23) rfl rfl (bl.add (k * 5)) rfl (pcL p) _ R2.out Try.underlying33 rfl HSB.out _ (by simp only [Act.put, List.setIfInBounds_toArray, List.set_cons_succ, List.set_cons_zero]; rfl) ?_)
        | go_big_quiet_step (fail))
      refine wpQuiet_nil ?_
      rintro _ ⟨z3, rfl⟩
      go_wp2_with fail
      go_roundw
      case rel =>
        go_light
        exact ⟨k + 1, z3, by omega, by go_num, rfl⟩
      case measure => simp [intOf]; omega
    · have hkn : k = l.length := by omega
      have h0 : decide (k < l.length) = false := decide_eq_false hlt
      clear hkn
      go_wp2_with fail
      go_ret
      exact ⟨rfl, z, rfl⟩
end Go.Proofs.Ytihbjnjpomljjaa
