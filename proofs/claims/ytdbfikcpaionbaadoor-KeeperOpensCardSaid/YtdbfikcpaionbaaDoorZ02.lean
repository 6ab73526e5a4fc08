/- Parts, one behind the other: Lag Sham0 Fld1 Fld2 Fld0 Fld3 Fld4 Fld5 Fld6 Fld7 Fld8 Fld9 Only Sham1 Sham2 Sham3 EqS Qui Sham4 Sham5 Sham6 Sham7 At Pla1 Pla2 Idx Pla3 Ins. -/
import Derived.Test.YtdbfikcpaionbaaDoorZ01
import Derived.Test.YtdbfikcpaionbaaDoorChecked
import Derived.WalkKit
import Derived.Outline
import Derived.Deep.Light
import Derived.BigRegion
import Derived.Lib.Hide
import Derived.Deep.QuietTactic
import Derived.BigQuiet
import Derived.Great.BuildSlice
import Derived.Laws.Tables
import Derived.Laws.Rows
import Derived.Deep.MidRow
import Derived.Deep.LoopGhost
import Derived.Deep.CutRange
import Derived.Deep.DeepCutAuto
import Derived.Deep.RegionWith
import Derived.StillTailTactics
import Derived.DataElems
import Derived.WalkMore
import Derived.Lib.AppendZerosOnto
import Derived.Lib.Overlaps
import Derived.Laws.CopyRow
import Derived.Laws.Externs
/- Lagrange at 0 over the field of 256 elements: any n shares of a polynomial of at most n coefficients are put together to its value at 0. -/
namespace Go.Proofs.YtdbfikcpaionbaaDoor
theorem gm_finv (a : Nat) (ha : a < 256) (h0 : a ≠ 0) : gm a (finv a) = 1 := gm_tinv a ha h0
theorem gm_left_comm (a b c : Nat) (ha : a < 256) (hb : b < 256) (hc : c < 256) : gm a (gm b c) = gm b (gm a c) := by
  rw [← gm_assoc a b c ha hb hc, gm_comm a b ha hb, gm_assoc b a c hb ha hc]
theorem one_gm (a : Nat) (ha : a < 256) : gm 1 a = a := by rw [gm_comm 1 a (by omega) ha, gm_one a ha]
theorem xor_lt8 {a b : Nat} (ha : a < 256) (hb : b < 256) : a ^^^ b < 256 := Nat.xor_lt_two_pow (n := 8) ha hb
theorem xor_ne {a b : Nat} (h : a ≠ b) : a ^^^ b ≠ 0 := fun h0 => h (by
  have : a ^^^ b ^^^ b = 0 ^^^ b := by rw [h0]
  rw [Nat.xor_assoc, Nat.xor_self, Nat.xor_zero, Nat.zero_xor] at this
  exact this)
/-- y through y + x -/
def qt (x y : Nat) : Nat := gm y (finv (y ^^^ x))
theorem qt_lt (x y : Nat) : qt x y < 256 := gm_lt _ _
/-- what a place counts beside others -/
def wt (x : Nat) : List Nat → Nat
  | [] => 1
  | y :: l => gm (qt x y) (wt x l)
theorem wt_lt (x : Nat) : ∀ l, wt x l < 256
  | [] => by simp [wt]
  | y :: l => gm_lt _ _
/-- the sum over all places -/
def sx : List Nat → Nat
  | [] => 0
  | a :: l => a ^^^ sx l
theorem sx_map_gm (c : Nat) (l : List Nat) : sx (l.map (gm c)) = gm c (sx l) := by
  induction l with
  | nil => simp [sx, gm_zero]
  | cons a l ih => simp [sx, ih, gm_right]
theorem sx_map_xor {α : Type} (f g : α → Nat) (l : List α) : sx (l.map fun i => f i ^^^ g i) = sx (l.map f) ^^^ sx (l.map g) := by
  induction l with
  | nil => simp [sx]
  | cons a l ih => simp only [List.map_cons, sx, ih, xor_swap4]
/-- Lagrange: the sum of f at each place times its weight -/
def lag (f : Nat → Nat) (l : List Nat) : Nat := sx ((List.range l.length).map fun i => gm (f (l.getD i 0)) (wt (l.getD i 0) (l.eraseIdx i)))
theorem lag_cons (f : Nat → Nat) (a : Nat) (l : List Nat) : lag f (a :: l) = gm (f a) (wt a l) ^^^ sx ((List.range l.length).map fun i => gm (f (l.getD i 0)) (gm (qt (l.getD i 0) a) (wt (l.getD i 0) (l.eraseIdx i)))) := by
  unfold lag
  rw [List.length_cons, List.range_succ_eq_map, List.map_cons, List.map_map, sx]
  congr 1
def Places (l : List Nat) : Prop := (∀ x ∈ l, x < 256 ∧ x ≠ 0) ∧ l.Nodup
theorem Places.tail {a : Nat} {l : List Nat} (h : Places (a :: l)) : Places l := ⟨fun x hx => h.1 x (List.mem_cons_of_mem _ hx), (List.nodup_cons.1 h.2).2⟩
/-- (p(x) + p(a)) / (x + a), by coefficients -/
def quo (a : Nat) : List Nat → List Nat
  | [] => []
  | _ :: l => zx l ((quo a l).map (gm a))
theorem quo_len (a : Nat) : ∀ l : List Nat, (quo a l).length = l.length - 1
  | [] => rfl
  | c :: l => by rw [quo, zx_len, List.length_map, quo_len a l]; simp
theorem map_gm_lt (a : Nat) (l : List Nat) : ∀ c ∈ l.map (gm a), c < 256 := fun c hc => by
  obtain ⟨b, _, rfl⟩ := List.mem_map.1 hc
  exact gm_lt _ _
theorem quo_lt (a : Nat) : ∀ l : List Nat, (∀ c ∈ l, c < 256) → ∀ c ∈ quo a l, c < 256
  | [], _ => by simp [quo]
  | c :: l, h => zx_lt _ _ (fun c hc => h c (by simp [hc])) (map_gm_lt _ _)
theorem hv_map (a x : Nat) (ha : a < 256) (hx : x < 256) : ∀ l : List Nat, (∀ c ∈ l, c < 256) → hv x (l.map (gm a)) = gm a (hv x l)
  | [], _ => by simp [hv, gm_zero]
  | c :: l, h => by
    have hl : ∀ c ∈ l, c < 256 := fun c hc => h c (by simp [hc])
    rw [List.map_cons, hv, hv, hv_map a x ha hx l hl, gm_right, gm_assoc a _ x ha (hv_lt x l hl) hx]
theorem quo_spec (a x : Nat) (ha : a < 256) (hx : x < 256) : ∀ l : List Nat, (∀ c ∈ l, c < 256) → hv x l ^^^ hv a l = gm (x ^^^ a) (hv x (quo a l))
  | [], _ => by simp [hv, quo, gm_zero]
  | c :: l, h => by
    have hl : ∀ c ∈ l, c < 256 := fun c hc => h c (by simp [hc])
    have ih := quo_spec a x ha hx l hl
    have h1 := hv_lt x l hl
    have h2 := hv_lt a l hl
    have h3 := hv_lt x _ (quo_lt a l hl)
    have e : hv a l = hv x l ^^^ gm (x ^^^ a) (hv x (quo a l)) := by
      rw [← ih, ← Nat.xor_assoc, Nat.xor_self, Nat.zero_xor]
    rw [quo, hv, hv, hv_zx, hv_map a x ha hx _ (quo_lt a l hl)]
    generalize hv x (quo a l) = q at *
    rw [xor_self_mid, e]
    generalize hv x l = s at *
    rw [gm_left (s) (gm (x ^^^ a) q) a, gm_right (x ^^^ a) s (gm a q), gm_left x a s, gm_left x a (gm a q), gm_left x a q, gm_left (gm x q) (gm a q) a,
      gm_comm s x h1 hx, gm_comm s a h1 ha, gm_assoc x q a hx h3 ha, gm_assoc a q a ha h3 ha, gm_comm q a h3 ha, Nat.xor_assoc]
/-- the polynomial that is 0 at each place -/
def vp : List Nat → List Nat
  | [] => [1]
  | y :: l => zx ((vp l).map (gm y)) (0 :: vp l)
theorem vp_len : ∀ l : List Nat, (vp l).length = l.length + 1
  | [] => rfl
  | y :: l => by rw [vp, zx_len, List.length_map, List.length_cons, vp_len l, List.length_cons]; omega
theorem vp_lt : ∀ l : List Nat, ∀ c ∈ vp l, c < 256
  | [] => by simp [vp]
  | y :: l => zx_lt _ _ (map_gm_lt _ _) (fun c hc => by
    rcases List.mem_cons.1 hc with rfl | hc
    · omega
    · exact vp_lt l c hc)
/-- the product of the places' sums with x -/
def px (x : Nat) : List Nat → Nat
  | [] => 1
  | y :: l => gm (y ^^^ x) (px x l)
theorem px_lt (x : Nat) : ∀ l : List Nat, px x l < 256
  | [] => by simp [px]
  | y :: l => gm_lt _ _
theorem hv_vp (x : Nat) (hx : x < 256) : ∀ l : List Nat, (∀ y ∈ l, y < 256) → hv x (vp l) = px x l
  | [], _ => by rw [vp, px, hv, hv, zero_gm]; rfl
  | y :: l, h => by
    have hl : ∀ y ∈ l, y < 256 := fun c hc => h c (by simp [hc])
    have hy := h y (by simp)
    rw [vp, px, hv_zx, hv_map y x hy hx _ (vp_lt l), hv_cons0 x hx _ (vp_lt l), hv_vp x hx l hl, gm_left]
theorem px_zero_at (x : Nat) : ∀ l : List Nat, x ∈ l → px x l = 0
  | [], h => by simp at h
  | y :: l, h => by
    rw [px]
    rcases List.mem_cons.1 h with rfl | h
    · rw [Nat.xor_self, zero_gm]
    · rw [px_zero_at x l h, gm_zero]
theorem gm_ne {a b : Nat} (ha : a < 256) (hb : b < 256) (h1 : a ≠ 0) (h2 : b ≠ 0) : gm a b ≠ 0 := fun h => by
  have : gm (finv a) (gm a b) = b := by
    rw [← gm_assoc _ _ _ (finv_lt a) ha hb, gm_comm _ a (finv_lt a) ha, gm_finv a ha h1, one_gm b hb]
  rw [h, gm_zero] at this
  exact h2 this.symm
theorem px_ne (x : Nat) (hx : x < 256) : ∀ l : List Nat, (∀ y ∈ l, y < 256) → x ∉ l → px x l ≠ 0
  | [], _, _ => by simp [px]
  | y :: l, h, hn => by
    rw [px]
    have hy := h y (by simp)
    exact gm_ne (xor_lt8 hy hx) (px_lt x l) (xor_ne (fun e => hn (by simp [e]))) (px_ne x hx l (fun c hc => h c (by simp [hc])) (fun hm => hn (by simp [hm])))
/-- a place's weight: the product of the others through the product of the sums -/
theorem wt_px (x : Nat) (hx : x < 256) : ∀ l : List Nat, (∀ y ∈ l, y < 256) → x ∉ l → gm (wt x l) (px x l) = px 0 l
  | [], _, _ => by rw [wt, px, px, gm_one 1 (by omega)]
  | y :: l, h, hn => by
    have hy := h y (by simp)
    have hl : ∀ y ∈ l, y < 256 := fun c hc => h c (by simp [hc])
    have ih := wt_px x hx l hl (fun hm => hn (by simp [hm]))
    have hd := xor_lt8 hy hx
    rw [wt, px, px, Nat.xor_zero, gm_assoc _ _ _ (qt_lt x y) (wt_lt x l) (gm_lt _ _), gm_left_comm _ _ _ (wt_lt x l) hd (px_lt x l), ih, ← gm_assoc _ _ _ (qt_lt x y) hd (px_lt 0 l)]
    congr 1
    unfold qt
    rw [gm_assoc _ _ _ hy (finv_lt _) hd, gm_comm (finv _) _ (finv_lt _) hd, gm_finv _ hd (xor_ne (fun e => hn (by simp [e]))), gm_one y hy]
theorem gm_cancel_right {a b c : Nat} (ha : a < 256) (hb : b < 256) (hc : c < 256) (h0 : c ≠ 0) (h : gm a c = gm b c) : a = b := by
  have e : ∀ d, d < 256 → gm (gm d c) (finv c) = d := fun d hd => by rw [gm_assoc d c _ hd hc (finv_lt c), gm_finv c hc h0, gm_one d hd]
  rw [← e a ha, h, e b hb]
theorem getD_memF {l : List Nat} {i : Nat} (h : i < l.length) : l.getD i 0 ∈ l := by
  rw [List.getD_eq_getElem?_getD, List.getElem?_eq_getElem h]; exact List.getElem_mem _
theorem sx_congr {f g : Nat → Nat} {l : List Nat} (h : ∀ i ∈ l, f i = g i) : sx (l.map f) = sx (l.map g) := by rw [List.map_congr_left h]
/-- **Lagrange at 0** -/
theorem lagrange : ∀ (l : List Nat), Places l → ∀ c : List Nat, (∀ a ∈ c, a < 256) → c.length ≤ l.length → lag (fun x => hv x c) l = hv 0 c
  | [], _, c, _, hlen => by
    have : c = [] := List.eq_nil_of_length_eq_zero (by simpa using hlen)
    subst this
    rfl
  | a :: l, hp, c, hc, hlen => by
    have ih := lagrange l hp.tail
    obtain ⟨ha, ha0⟩ := hp.1 a (by simp)
    have hlt : ∀ y ∈ l, y < 256 := fun y hy => (hp.1 y (by simp [hy])).1
    have hnot : a ∉ l := (List.nodup_cons.1 hp.2).1
    have hit : ∀ i, i < l.length → l.getD i 0 < 256 ∧ l.getD i 0 ^^^ a < 256 ∧ a ^^^ l.getD i 0 ≠ 0 := fun i hi => by
      have hm := getD_memF hi
      exact ⟨hlt _ hm, xor_lt8 (hlt _ hm) ha, xor_ne (fun e => hnot (e ▸ hm))⟩
    -- the sum of what is q times the sum with a
    have key : ∀ q : List Nat, (∀ b ∈ q, b < 256) → q.length ≤ l.length →
        sx ((List.range l.length).map fun i => gm (gm (l.getD i 0 ^^^ a) (hv (l.getD i 0) q)) (gm (qt (l.getD i 0) a) (wt (l.getD i 0) (l.eraseIdx i)))) = gm a (hv 0 q) := by
      intro q hq hql
      rw [← ih q hq hql]
      unfold lag
      rw [← sx_map_gm, List.map_map]
      refine sx_congr fun i hi => ?_
      obtain ⟨h1, h2, h3⟩ := hit i (List.mem_range.1 hi)
      have h4 := hv_lt (l.getD i 0) q hq
      have h5 := wt_lt (l.getD i 0) (l.eraseIdx i)
      show _ = gm a (gm (hv (l.getD i 0) q) (wt (l.getD i 0) (l.eraseIdx i)))
      have hd : gm (l.getD i 0 ^^^ a) (qt (l.getD i 0) a) = a := by
        unfold qt
        rw [gm_left_comm _ _ _ h2 ha (finv_lt _), Nat.xor_comm (l.getD i 0) a, gm_finv _ (xor_lt8 ha h1) h3, gm_one a ha]
      generalize l.getD i 0 = x at *
      generalize wt x (l.eraseIdx i) = w at *
      generalize hv x q = y at *
      have hqt := qt_lt x a
      generalize qt x a = z at *
      rw [gm_assoc _ _ _ h2 h4 (gm_lt _ _), gm_left_comm _ _ _ h4 hqt h5, ← gm_assoc _ _ _ h2 hqt (gm_lt _ _), hd]
    -- the sum of all weights is 1
    have hone : wt a l ^^^ sx ((List.range l.length).map fun i => gm 1 (gm (qt (l.getD i 0) a) (wt (l.getD i 0) (l.eraseIdx i)))) = 1 := by
      have hpa := px_ne a ha l hlt hnot
      have hpl := px_lt a l
      have hk := key (quo a (vp l)) (quo_lt a _ (vp_lt l)) (by rw [quo_len, vp_len]; omega)
      have e0 : hv 0 (vp l) ^^^ hv a (vp l) = gm (0 ^^^ a) (hv 0 (quo a (vp l))) := quo_spec a 0 ha (by omega) _ (vp_lt l)
      rw [hv_vp 0 (by omega) l hlt, hv_vp a ha l hlt, Nat.zero_xor] at e0
      rw [← e0] at hk
      have e1 : sx ((List.range l.length).map fun i => gm (gm (l.getD i 0 ^^^ a) (hv (l.getD i 0) (quo a (vp l)))) (gm (qt (l.getD i 0) a) (wt (l.getD i 0) (l.eraseIdx i)))) =
          sx ((List.range l.length).map fun i => gm (px a l) (gm 1 (gm (qt (l.getD i 0) a) (wt (l.getD i 0) (l.eraseIdx i))))) := by
        refine sx_congr fun i hi => ?_
        have hi' := List.mem_range.1 hi
        obtain ⟨h1, h2, h3⟩ := hit i hi'
        rw [← quo_spec a _ ha h1 _ (vp_lt l), hv_vp _ h1 l hlt, hv_vp a ha l hlt, px_zero_at _ l (getD_memF hi'), Nat.zero_xor, one_gm _ (gm_lt _ _)]
      rw [e1] at hk
      have e2 := sx_map_gm (px a l) ((List.range l.length).map fun i => gm 1 (gm (qt (l.getD i 0) a) (wt (l.getD i 0) (l.eraseIdx i))))
      rw [List.map_map] at e2
      have e3 : gm (px a l) (sx ((List.range l.length).map fun i => gm 1 (gm (qt (l.getD i 0) a) (wt (l.getD i 0) (l.eraseIdx i))))) = px 0 l ^^^ px a l := e2.symm.trans hk
      generalize hS : sx ((List.range l.length).map fun i => gm 1 (gm (qt (l.getD i 0) a) (wt (l.getD i 0) (l.eraseIdx i)))) = s at *
      have hs : s < 256 := by
        rw [← hS]
        have : ∀ (is : List Nat) (f : Nat → Nat), sx (is.map fun i => gm 1 (f i)) < 256 := by
          intro is f
          induction is with
          | nil => simp [sx]
          | cons i is ihh => exact xor_lt8 (gm_lt _ _) ihh
        exact this _ _
      have hw := wt_px a ha l hlt hnot
      refine gm_cancel_right (xor_lt8 (wt_lt a l) hs) (by omega) hpl hpa ?_
      rw [gm_left, hw, gm_comm s _ hs hpl, e3, one_gm _ hpl, ← Nat.xor_assoc, Nat.xor_self, Nat.zero_xor]
    rw [lag_cons]
    have hA := hv_lt a c hc
    have hquo := key (quo a c) (quo_lt a c hc) (by rw [quo_len]; simp at hlen; omega)
    have hsplit : sx ((List.range l.length).map fun i => gm (hv (l.getD i 0) c) (gm (qt (l.getD i 0) a) (wt (l.getD i 0) (l.eraseIdx i)))) =
        gm a (hv 0 (quo a c)) ^^^ gm (hv a c) (sx ((List.range l.length).map fun i => gm 1 (gm (qt (l.getD i 0) a) (wt (l.getD i 0) (l.eraseIdx i))))) := by
      rw [← hquo, ← sx_map_gm, List.map_map, ← sx_map_xor]
      refine sx_congr fun i hi => ?_
      obtain ⟨h1, h2, h3⟩ := hit i (List.mem_range.1 hi)
      have e : hv (l.getD i 0) c = gm (l.getD i 0 ^^^ a) (hv (l.getD i 0) (quo a c)) ^^^ hv a c := by
        rw [← quo_spec a _ ha h1 c hc, Nat.xor_assoc, Nat.xor_self, Nat.xor_zero]
      show _ = _ ^^^ gm (hv a c) (gm 1 (gm (qt (l.getD i 0) a) (wt (l.getD i 0) (l.eraseIdx i))))
      rw [one_gm _ (gm_lt _ _)]
      generalize gm (qt (l.getD i 0) a) (wt (l.getD i 0) (l.eraseIdx i)) = w at *
      rw [e, gm_left]
    rw [hsplit]
    have e4 : hv 0 c = hv a c ^^^ gm a (hv 0 (quo a c)) := by
      have := quo_spec a 0 ha (by omega) c hc
      rw [Nat.zero_xor] at this
      rw [← this, Nat.xor_comm (hv 0 c), ← Nat.xor_assoc, Nat.xor_self, Nat.zero_xor]
    rw [e4, Nat.xor_comm (gm a (hv 0 (quo a c))), ← Nat.xor_assoc, ← gm_right, hone, gm_one _ hA]
end Go.Proofs.YtdbfikcpaionbaaDoor
/- Shares, plainly. -/
namespace Go.Proofs.YtdbfikcpaionbaaDoor
/-- the draws at place i: every 32nd -/
def cf (d : List Nat) (i K : Nat) : List Nat := (List.range K).map fun j => d.getD (32 * j + i) 0
/-- how many of them there are, and count -/
def kcF (t len i : Nat) : Nat := min (t - 1) ((len + 31 - i) / 32)
def pl (s d : List Nat) (t i : Nat) : List Nat := s.getD i 0 :: cf d i (kcF t d.length i)
def sy (s d : List Nat) (t x i : Nat) : Nat := hv x (pl s d t i)
def sys (s d : List Nat) (t x : Nat) : List Nat := (List.range 32).map (sy s d t x)
/-- a share's bytes: the place, then the values -/
def shr (s d : List Nat) (t x : Nat) : List Nat := x :: sys s d t x
theorem cf_len (d : List Nat) (i K : Nat) : (cf d i K).length = K := by simp [cf]
theorem cf_succ (d : List Nat) (i K : Nat) : cf d i (K + 1) = cf d i K ++ [d.getD (32 * K + i) 0] := by simp [cf, List.range_succ]
theorem cf_lt {d : List Nat} (h : ∀ c ∈ d, c < 256) (i K : Nat) : ∀ c ∈ cf d i K, c < 256 := fun c hc => by
  obtain ⟨j, _, rfl⟩ := List.mem_map.1 hc
  rw [List.getD_eq_getElem?_getD]
  rcases Nat.lt_or_ge (32 * j + i) d.length with hk | hk
  · rw [List.getElem?_eq_getElem hk]; exact h _ (List.getElem_mem _)
  · rw [List.getElem?_eq_none hk]; simp
theorem pl_lt {s d : List Nat} (hs : ∀ c ∈ s, c < 256) (hd : ∀ c ∈ d, c < 256) (t i : Nat) : ∀ c ∈ pl s d t i, c < 256 := fun c hc => by
  rcases List.mem_cons.1 hc with rfl | hc
  · rw [List.getD_eq_getElem?_getD]
    rcases Nat.lt_or_ge i s.length with hk | hk
    · rw [List.getElem?_eq_getElem hk]; exact hs _ (List.getElem_mem _)
    · rw [List.getElem?_eq_none hk]; simp
  · exact cf_lt hd i _ c hc
theorem pl_len (s d : List Nat) (t i : Nat) : (pl s d t i).length = kcF t d.length i + 1 := by simp [pl, cf_len]
theorem sy_lt {s d : List Nat} (hs : ∀ c ∈ s, c < 256) (hd : ∀ c ∈ d, c < 256) (t x i : Nat) : sy s d t x i < 256 := hv_lt x _ (pl_lt hs hd t i)
theorem sys_len (s d : List Nat) (t x : Nat) : (sys s d t x).length = 32 := by simp [sys]
theorem shr_len (s d : List Nat) (t x : Nat) : (shr s d t x).length = 33 := by simp [shr, sys_len]
theorem sys_at (s d : List Nat) (t x i : Nat) (h : i < 32) : (sys s d t x).getD i 0 = sy s d t x i := by
  simp [sys, List.getD_eq_getElem?_getD, h]
/-- the first k values, the rest still 0 -/
def sysTo (s d : List Nat) (t x k : Nat) : List Nat := (List.range 32).map fun i => if i < k then sy s d t x i else 0
theorem sysTo_zero (s d : List Nat) (t x : Nat) : sysTo s d t x 0 = List.replicate 32 0 := by
  rw [List.eq_replicate_iff]; simp [sysTo]
theorem sysTo_all (s d : List Nat) (t x : Nat) : sysTo s d t x 32 = sys s d t x := by
  unfold sysTo sys
  exact List.map_congr_left fun i hi => by rw [if_pos (List.mem_range.1 hi)]
theorem sysTo_len (s d : List Nat) (t x k : Nat) : (sysTo s d t x k).length = 32 := by simp [sysTo]
theorem sysTo_set (s d : List Nat) (t x k : Nat) (_hk : k < 32) : (sysTo s d t x k).set k (sy s d t x k) = sysTo s d t x (k + 1) := by
  apply List.ext_getElem
  · simp [sysTo]
  · intro i h1 h2
    simp only [sysTo, List.getElem_set, List.getElem_map, List.getElem_range]
    by_cases h : k = i
    · subst h; simp
    · rw [if_neg h]
      by_cases h3 : i < k
      · rw [if_pos h3, if_pos (by omega)]
      · rw [if_neg h3, if_neg (by omega)]
end Go.Proofs.YtdbfikcpaionbaaDoor
namespace Go.Proofs.YtdbfikcpaionbaaDoor
open Go.RowKit
theorem zero_tab (w : World) : (zeroValue 91).run Tryd.prog w = .ok (.agg (vtab (tbN 0))) w := by
  rw [ztab_is]; kernel_rfl
set_option maxHeartbeats 400000 in
theorem twice_c (a : Nat) (w : World) (h : a < 256) :
    Calls Tryd.prog 52 #[.int .u8 a] w fun e w' => e = .returned (.int .u8 (tw a : Nat)) ∧ w = w' := by
  go_enter Tryd.func52, Tryd.ntmps52
  go_wp2
  go_ret
  exact ⟨ret_u8 (tw_is a h), rfl⟩
/-- block B holds the tables of these numbers -/
def TabAt (w : World) (B : Nat) (t : Array Nat) : Prop := w.heap[B]? = some (.cells (vtab t) 91 (0, 0))
theorem TabAt.cell {w : World} {B : Nat} {t : Array Nat} (h : TabAt w B t) (i : Nat) (hi : i < t.size) : w.cell? ⟨B, i, none⟩ = some (.int .u8 (t[i]'hi : Nat)) :=
  cellOf h (by simp [vtab, hi])
/-- what Build leaves -/
def Built (w : World) (e : Ending) (w' : World) : Prop := e = .returned (.pointer (some ⟨w.heap.size, 0, none⟩)) ∧ w'.heap.size = w.heap.size + 1 ∧ TabAt w' w.heap.size ftab ∧ Below w.heap.size w w'
set_option maxRecDepth 100000 in
set_option maxHeartbeats 400000 in
theorem build_c (w : World) : Calls Tryd.prog 40 #[] w (Built w) := by
  have zt := zero_tab
  go_enter Tryd.func40, Tryd.ntmps40
  go_wp2
  clear zt
  go_loopw [2, 6] (fun a i wr => ∃ k : Nat, k ≤ 255 ∧ a = .int .u8 (gexp k : Nat) ∧ i = .int .i64 k ∧ wr.heap.size = w.heap.size + 1 ∧ TabAt wr w.heap.size (tbN k) ∧ Below w.heap.size w wr) (fun _ i _ => 255 - (intOf i).toNat)
  case atStart => exact ⟨0, by omega, rfl, rfl, by simp, heapNew _ _, (Below.refl _ _).alloc (Nat.le_refl _) _⟩
  case round =>
    rename_i wr
    obtain ⟨k, hk, rfl, rfl, hs, ht, hb⟩ := hrel
    have hg := gexp_lt k
    have hsz := tbN_size k
    have ht1 : TabAt wr.drew w.heap.size (tbN k) := ht
    have HT := Lib.hid ht
    have HS := Lib.hid hs
    have HB := Lib.hid hb
    by_cases hlt : k < 255
    · have c1 := ht1.cell k (by omega)
      have f1 : wr.drew.frozen? ⟨w.heap.size, k, none⟩ = false := freeOf ht1
      obtain ⟨v2, c2⟩ : ∃ v, (wr.setCell ⟨w.heap.size, k, none⟩ (.int .u8 (gexp k : Nat))).drew.cell? ⟨w.heap.size, 256 + gexp k, none⟩ = some v := by
        exact ⟨_, cellOf (heapSet _ ht1) (Array.getElem?_eq_getElem (by simp [vtab, hsz]; omega))⟩
      have f2 : (wr.setCell ⟨w.heap.size, k, none⟩ (.int .u8 (gexp k : Nat))).drew.frozen? ⟨w.heap.size, 256 + gexp k, none⟩ = false := freeOf (heapSet _ ht1)
      clear ht ht1 hs hb
      generalize hgk : gexp k = g at *
      have HG := Lib.hid hgk
      clear hgk
      go_wp2
      go_region
      all_goals
        go_wp2_with (go_at_call 52; refine (twice_c _ _ hg).mono ?_; rintro e w' ⟨rfl, rfl⟩)
        go_roundw
        case rel =>
          go_light
          exact ⟨k + 1, by omega, u8_of_i64 (tw_next HG.out.symm), by go_num, by simpa [heapSize_set, heapDrew] using HS.out,
            (heapSet _ (heapSet _ HT.out)).trans (by rw [vtab_two, ← HG.out]; rfl), ((HB.out.setCell (Nat.le_refl _) _).drew).setCell (Nat.le_refl _) _⟩
        case measure => simp [intOf]; omega
    · obtain rfl : k = 255 := by omega
      have c1 := TabAt.cell ht 255 (by omega)
      have f1 : wr.frozen? ⟨w.heap.size, 255, none⟩ = false := freeOf ht
      obtain ⟨v2, c2⟩ : ∃ v, (wr.setCell ⟨w.heap.size, 255, none⟩ (.int .u8 (gexp 255 : Nat))).cell? ⟨w.heap.size, 256, none⟩ = some v := by
        exact ⟨_, cellOf (heapSet _ ht1) (Array.getElem?_eq_getElem (by simp [vtab, hsz]))⟩
      have f2 : (wr.setCell ⟨w.heap.size, 255, none⟩ (.int .u8 (gexp 255 : Nat))).frozen? ⟨w.heap.size, 256, none⟩ = false := freeOf (heapSet _ ht1)
      clear ht ht1 hs hb
      generalize hgk : gexp 255 = g at *
      have HG := Lib.hid hgk
      clear hgk
      go_wp2
      go_ret
      exact ⟨rfl, by simpa [heapSize_set, heapDrew] using HS.out, (heapSet _ (heapSet _ HT.out)).trans (by rw [show (Value.int .u8 0) = .int .u8 ((0 : Nat) : Int) from rfl, vtab_two, ← HG.out]; rfl), (HB.out.setCell (Nat.le_refl _) _).setCell (Nat.le_refl _) _⟩
theorem TabAt.at_ {w : World} {B : Nat} {t : Array Nat} (h : TabAt w B t) (hs : t.size = 512) (i : Nat) (hi : i < 512) : w.cell? ⟨B, i, none⟩ = some (.int .u8 (tg t i : Nat)) := by
  rw [h.cell i (by omega)]; simp [tg, Array.getD, show i < t.size by omega]
theorem TabAt.drewN {w : World} {B : Nat} {t : Array Nat} (h : TabAt w B t) (n : Nat) : TabAt (w.drewN n) B t := h
end Go.Proofs.YtdbfikcpaionbaaDoor
namespace Go.Proofs.YtdbfikcpaionbaaDoor
open Go.RowKit
/-- a call that only reads -/
def QuietlyF (v : Value) (w : World) (e : Ending) (w' : World) : Prop := e = .returned v ∧ ∃ n, w' = w.drewN n
theorem quiet_left {P : Program} {f : FuncId} {args : Array Value} {w : World} {a n : Nat} {v : Value}
    (h : Calls P f args (w.drewN (a + n)) fun e w' => e = .returned v ∧ w.drewN (a + n) = w') :
    Calls P f args (w.drewN (a + n)) fun e w'' => e = .returned v ∧ ∃ m, w'' = w.drewN (a + m) :=
  h.mono fun _ _ ⟨he, hm⟩ => ⟨he, n, hm.symm⟩
theorem mul_zero (ao : Option Addr) (a b : Nat) (w : World) (ha : a < 256) (hb : b < 256) (h : a = 0 ∨ b = 0) :
    Calls Tryd.prog 42 #[.pointer ao, .int .u8 a, .int .u8 b] w (QuietlyF (.int .u8 0) w) := by
  cases ao with
  | none =>
    go_enter Tryd.func42, Tryd.ntmps42
    go_wp2
    go_ret
    exact ⟨rfl, 0, rfl⟩
  | some p =>
    by_cases h1 : a = 0
    · subst h1
      go_enter Tryd.func42, Tryd.ntmps42
      go_wp2
      go_ret
      exact ⟨rfl, 0, rfl⟩
    · obtain rfl : b = 0 := by omega
      have t1 : ((a : Int) == 0) = false := beq_eq_false_iff_ne.2 (by omega)
      clear h
      go_enter Tryd.func42, Tryd.ntmps42
      go_wp2
      go_ret
      exact ⟨rfl, 0, rfl⟩
/-- nil tables answer 0 -/
theorem mul_nil (a b : Nat) (w : World) : Calls Tryd.prog 42 #[.pointer none, .int .u8 a, .int .u8 b] w (QuietlyF (.int .u8 0) w) := by
  go_enter Tryd.func42, Tryd.ntmps42
  go_wp2
  go_ret
  exact ⟨rfl, 0, rfl⟩
set_option maxHeartbeats 400000 in
theorem mul_c (t : Array Nat) (B a b : Nat) (w : World) (hs : Small t) (ht : TabAt w B t) (ha : a < 256) (hb : b < 256) :
    Calls Tryd.prog 42 #[.pointer (some ⟨B, 0, none⟩), .int .u8 a, .int .u8 b] w (QuietlyF (.int .u8 (tmul t a b : Nat)) w) := by
  by_cases h0 : a = 0 ∨ b = 0
  · have e : tmul t a b = 0 := by simp [tmul, h0]
    rw [e]; exact mul_zero _ a b w ha hb h0
  · have h1 : a ≠ 0 := fun h => h0 (.inl h)
    have h2 : b ≠ 0 := fun h => h0 (.inr h)
    have t1 : ((a : Int) == 0) = false := beq_eq_false_iff_ne.2 (by omega)
    have t2 : ((b : Int) == 0) = false := beq_eq_false_iff_ne.2 (by omega)
    have e : tmul t a b = tg t ((tg t (256 + a) + tg t (256 + b)) % 255) := by simp [tmul, h1, h2]
    have HE := Lib.hid e
    have c1 := ht.at_ hs.1 (256 + a) (by omega)
    have c2 := ht.at_ hs.1 (256 + b) (by omega)
    have c3 := ht.at_ hs.1 ((tg t (256 + a) + tg t (256 + b)) % 255) (by omega)
    have b1 := hs.2 (256 + a)
    have b2 := hs.2 (256 + b)
    generalize tg t (256 + a) = x at *
    generalize tg t (256 + b) = y at *
    generalize tg t ((x + y) % 255) = z at *
    clear e hs ht h0 h1 h2
    rw [HE.out]
    go_enter Tryd.func42, Tryd.ntmps42
    go_wp2
    go_quiet (fail)
    go_wp2
    go_ret
    exact ⟨rfl, _, rfl⟩
theorem inv_nil (a : Nat) (w : World) : Calls Tryd.prog 57 #[.pointer none, .int .u8 a] w (QuietlyF (.tuple #[.int .u8 0, .int .i64 1]) w) := by
  go_enter Tryd.func57, Tryd.ntmps57
  go_wp2
  go_ret2
  exact ⟨rfl, 0, rfl⟩
/-- the error of an inverse -/
def ierr (a : Nat) : Int := if a = 0 then 1 else 0
set_option maxHeartbeats 400000 in
theorem inv_c (t : Array Nat) (B a : Nat) (w : World) (hs : Small t) (ht : TabAt w B t) (ha : a < 256) :
    Calls Tryd.prog 57 #[.pointer (some ⟨B, 0, none⟩), .int .u8 a] w (QuietlyF (.tuple #[.int .u8 (tinv t a : Nat), .int .i64 (ierr a)]) w) := by
  by_cases h0 : a = 0
  · have e : tinv t a = 0 := by simp [tinv, h0]
    have e2 : ierr a = 1 := by simp [ierr, h0]
    rw [e, e2]
    subst h0
    clear hs ht e e2
    go_enter Tryd.func57, Tryd.ntmps57
    go_wp2
    go_ret2
    exact ⟨rfl, 0, rfl⟩
  · have t1 : ((a : Int) == 0) = false := beq_eq_false_iff_ne.2 (by omega)
    have HE := Lib.hid (show tinv t a = tg t (255 - tg t (256 + a)) by simp [tinv, h0])
    have e2 : ierr a = 0 := by simp [ierr, h0]
    rw [e2]
    clear e2
    have c1 := ht.at_ hs.1 (256 + a) (by omega)
    have c3 := ht.at_ hs.1 (255 - tg t (256 + a)) (by omega)
    have b1 := hs.2 (256 + a)
    have e3 : ((255 : Int) - (tg t (256 + a) : Nat)) = ((255 - tg t (256 + a) : Nat) : Int) := by omega
    generalize tg t (256 + a) = x at *
    generalize tg t (255 - x) = z at *
    clear hs ht h0
    rw [HE.out]
    go_enter Tryd.func57, Tryd.ntmps57
    go_wp2
    go_quiet (fail)
    go_wp2
    go_ret2
    exact ⟨rfl, _, rfl⟩
end Go.Proofs.YtdbfikcpaionbaaDoor
namespace Go.Proofs.YtdbfikcpaionbaaDoor
open Go.RowKit
set_option maxHeartbeats 400000 in
theorem rmul_c (a b : Nat) (w : World) (h : a < 256) (hb : b < 256) :
    Calls Tryd.prog 29 #[.int .u8 a, .int .u8 b] w fun e w' => e = .returned (.int .u8 (gm a b : Nat)) ∧ w = w' := by
  go_enter Tryd.func29, Tryd.ntmps29
  go_wp2
  go_loop [5, 6] (fun p i => ∃ k P : Nat, k ≤ 8 ∧ P < 65536 ∧ i = .int .i64 k ∧ p = .int .i64 P ∧ P = m1 a b k) (fun _ i => 8 - (intOf i).toNat)
  case atStart => exact ⟨0, 0, by omega, by omega, rfl, rfl, rfl⟩
  case round =>
    obtain ⟨k, P, hk, hP, rfl, rfl, hm⟩ := hrel
    have HM := Lib.hid hm; clear hm
    by_cases hlt : k < 8
    · rcases (by omega : k = 0 ∨ k = 1 ∨ k = 2 ∨ k = 3 ∨ k = 4 ∨ k = 5 ∨ k = 6 ∨ k = 7) with rfl | rfl | rfl | rfl | rfl | rfl | rfl | rfl
      all_goals
        go_wp2
        all_goals
          go_round
          case rel =>
            go_light
            first
              | (have t := ‹((_ : Int) == 1) = true›; simp only [beq_iff_eq] at t; exact m1y h HM.out hP (by omega) rfl (by omega) (by omega))
              | (have t := ‹((_ : Int) == 1) = false›; simp only [beq_eq_false_iff_ne, ne_eq] at t; exact m1n HM.out hP (by omega) rfl (by omega))
          case measure => simp [intOf]
    · obtain rfl : k = 8 := by omega
      have hP0 : P < 2 ^ 16 := hP
      go_wp2
      go_loop [5, 7] (fun p i => ∃ k Q : Nat, k ≤ 7 ∧ Q < 65536 ∧ i = .int .i64 (14 - k) ∧ p = .int .i64 Q ∧ Q = m2 P k) (fun _ i => (intOf i - 7).toNat)
      case atStart => exact ⟨0, P, by omega, by omega, rfl, rfl, rfl⟩
      case round =>
        obtain ⟨k, Q, hk, hQ, rfl, rfl, hm⟩ := hrel
        have HM2 := Lib.hid hm; clear hm
        by_cases hlt : k < 7
        · rcases (by omega : k = 0 ∨ k = 1 ∨ k = 2 ∨ k = 3 ∨ k = 4 ∨ k = 5 ∨ k = 6) with rfl | rfl | rfl | rfl | rfl | rfl | rfl
          all_goals
            go_wp2
            all_goals
              go_round
              case rel =>
                go_light
                first
                  | (have t := ‹((_ : Int) == 1) = true›; simp only [beq_iff_eq] at t; exact m2y hP0 HM2.out hQ (by omega) rfl (by omega) (by omega))
                  | (have t := ‹((_ : Int) == 1) = false›; simp only [beq_eq_false_iff_ne, ne_eq] at t; exact m2n HM2.out hQ (by omega) rfl (by omega))
              case measure => simp [intOf]
        · obtain rfl : k = 7 := by omega
          go_wp2
          go_ret
          exact ⟨ret_u8 (gm_of HM.out HM2.out), rfl⟩
end Go.Proofs.YtdbfikcpaionbaaDoor
namespace Go.Proofs.YtdbfikcpaionbaaDoor
open Go.RowKit
set_option maxHeartbeats 400000 in
theorem div_c (t : Array Nat) (B a b : Nat) (w : World) (hs : Small t) (ht : TabAt w B t) (ha : a < 256) (hb : b < 256) :
    Calls Tryd.prog 53 #[.pointer (some ⟨B, 0, none⟩), .int .u8 a, .int .u8 b] w (QuietlyF (.tuple #[.int .u8 (tmul t a (tinv t b) : Nat), .int .i64 (ierr b)]) w) := by
  have hi := tinv_lt hs b
  have HS := Lib.hid hs
  have HT := Lib.hid ht
  clear hs ht
  go_enter Tryd.func53, Tryd.ntmps53
  go_wp2_with fail
  refine (inv_c t B b _ HS.out (by exact HT.out) hb).mono ?_
  rintro e w' ⟨rfl, n, rfl⟩
  go_wp2_with fail
  refine (mul_c t B a _ _ HS.out (by exact HT.out) ha hi).mono ?_
  rintro e w' ⟨rfl, m, rfl⟩
  go_wp2
  go_ret2
  exact ⟨rfl, _, rfl⟩
theorem div_nil (a b : Nat) (w : World) : Calls Tryd.prog 53 #[.pointer none, .int .u8 a, .int .u8 b] w (QuietlyF (.tuple #[.int .u8 0, .int .i64 1]) w) := by
  go_enter Tryd.func53, Tryd.ntmps53
  go_wp2_with fail
  refine (inv_nil b _).mono ?_
  rintro e w' ⟨rfl, n, rfl⟩
  go_wp2_with fail
  refine (mul_nil a 0 _).mono ?_
  rintro e w' ⟨rfl, m, rfl⟩
  go_wp2
  go_ret2
  exact ⟨rfl, _, rfl⟩
set_option maxHeartbeats 400000 in
theorem pow_c (a n : Nat) (w : World) (ha : a < 256) (hn : n ≤ 1000000) :
    Calls Tryd.prog 30 #[.int .u8 a, .int .i64 n] w fun e w' => e = .returned (.int .u8 (gpow a n : Nat)) ∧ w = w' := by
  go_enter Tryd.func30, Tryd.ntmps30
  go_wp2
  go_loop [5, 6] (fun p i => ∃ k : Nat, k ≤ n ∧ i = .int .i64 k ∧ p = .int .u8 (gpow a k : Nat)) (fun _ i => n - (intOf i).toNat)
  case atStart => exact ⟨0, by omega, rfl, rfl⟩
  case round =>
    obtain ⟨k, hk, rfl, rfl⟩ := hrel
    by_cases hlt : k < n
    · have hp := gpow_lt a k
      have HG := Lib.hid (show gpow a (k + 1) = gm (gpow a k) a from rfl)
      generalize gpow a k = p at *
      go_wp2_with fail
      refine (rmul_c p a _ hp ha).mono ?_
      rintro e w' ⟨rfl, rfl⟩
      go_wp2
      go_round
      case rel => exact ⟨k + 1, by omega, by go_num, by rw [HG.out]⟩
      case measure => simp [intOf]; omega
    · obtain rfl : k = n := by omega
      go_wp2
      go_ret
      exact ⟨rfl, rfl⟩
end Go.Proofs.YtdbfikcpaionbaaDoor
namespace Go.Proofs.YtdbfikcpaionbaaDoor
open Go.RowKit
theorem awake07_n : tmul ftab 87 131 = 193 := by rw [tmul_is _ _ (by omega) (by omega)]; rfl
end Go.Proofs.YtdbfikcpaionbaaDoor
namespace Go.Proofs.YtdbfikcpaionbaaDoor
open Go.RowKit
/-- the program's product, inverse, quotient, value, by the tables that Build laid -/
theorem fmul_c (B a b : Nat) (w : World) (ht : TabAt w B ftab) (ha : a < 256) (hb : b < 256) :
    Calls Tryd.prog 42 #[.pointer (some ⟨B, 0, none⟩), .int .u8 a, .int .u8 b] w (QuietlyF (.int .u8 (gm a b : Nat)) w) := by
  rw [← tmul_is a b ha hb]; exact mul_c ftab B a b w ftab_small ht ha hb
theorem finv_c (B a : Nat) (w : World) (ht : TabAt w B ftab) (ha : a < 256) :
    Calls Tryd.prog 57 #[.pointer (some ⟨B, 0, none⟩), .int .u8 a] w (QuietlyF (.tuple #[.int .u8 (finv a : Nat), .int .i64 (ierr a)]) w) := inv_c ftab B a w ftab_small ht ha
theorem fdiv_c (B a b : Nat) (w : World) (ht : TabAt w B ftab) (ha : a < 256) (hb : b < 256) :
    Calls Tryd.prog 53 #[.pointer (some ⟨B, 0, none⟩), .int .u8 a, .int .u8 b] w (QuietlyF (.tuple #[.int .u8 (gm a (finv b) : Nat), .int .i64 (ierr b)]) w) := by
  rw [← tmul_is a (finv b) ha (finv_lt b)]; exact div_c ftab B a b w ftab_small ht ha hb
theorem fmul_one (B a : Nat) (w : World) (ht : TabAt w B ftab) (ha : a < 256) :
    Calls Tryd.prog 42 #[.pointer (some ⟨B, 0, none⟩), .int .u8 a, .int .u8 1] w (QuietlyF (.int .u8 (a : Nat)) w) := by
  have h := fmul_c B a 1 w ht ha (by omega)
  rw [gm_one a ha] at h
  exact h
end Go.Proofs.YtdbfikcpaionbaaDoor
namespace Go.Proofs.YtdbfikcpaionbaaDoor
open Go.RowKit
set_option maxHeartbeats 400000 in
set_option maxRecDepth 100000 in
theorem rinv_c (a : Nat) (w : World) (ha : a < 256) :
    Calls Tryd.prog 36 #[.int .u8 a] w fun e w' => e = .returned (.int .u8 (rinv a : Nat)) ∧ w = w' := by
  go_enter Tryd.func36, Tryd.ntmps36
  go_wp2
  go_loop [3] (fun i => ∃ k : Nat, 1 ≤ k ∧ k ≤ 256 ∧ i = .int .i64 k ∧ rinv a = rinvFrom a (256 - k) k) (fun i => 256 - (intOf i).toNat)
  case atStart => exact ⟨1, by omega, by omega, rfl, rfl⟩
  case round =>
    obtain ⟨k, hk1, hk, rfl, hr⟩ := hrel
    have HR := Lib.hid hr
    clear hr
    by_cases hlt : k < 256
    · have hst := Lib.hid (show rinvFrom a (256 - k) k = if gm a k = 1 then k else rinvFrom a (255 - k) (k + 1) by rw [show 256 - k = (255 - k) + 1 from by omega]; rfl)
      by_cases h1 : gm a k = 1
      · have t1 : (((gm a k : Nat) : Int) == 1) = true := by rw [h1]; rfl
        clear h1
        go_wp2_with (go_at_call 29; ((with_reducible refine (rmul_c a k _ ha hlt).mono ?_); rintro e w' ⟨rfl, rfl⟩))
        go_ret
        refine ⟨ret_u8 ?_, rfl⟩
        rw [HR.out, hst.out, if_pos (by have := beq_iff_eq.1 t1; omega)]
      · have t1 : (((gm a k : Nat) : Int) == 1) = false := beq_eq_false_iff_ne.2 (by omega)
        have H1 := Lib.hid h1
        clear h1
        go_wp2_with (go_at_call 29; ((with_reducible refine (rmul_c a k _ ha hlt).mono ?_); rintro e w' ⟨rfl, rfl⟩))
        go_round
        case rel =>
          go_light
          exact ⟨k + 1, by omega, by omega, by go_num, by rw [HR.out, hst.out, if_neg H1.out, show 256 - (k + 1) = 255 - k from by omega]⟩
        case measure => simp [intOf]; omega
    · obtain rfl : k = 256 := by omega
      go_wp2
      go_ret
      exact ⟨ret_u8 (by rw [HR.out]; rfl), rfl⟩
theorem rfinv_c (a : Nat) (w : World) (ha : a < 256) (h0 : a ≠ 0) :
    Calls Tryd.prog 36 #[.int .u8 a] w fun e w' => e = .returned (.int .u8 (finv a : Nat)) ∧ w = w' := by
  unfold finv
  rw [← rinv_is a ha h0]
  exact rinv_c a w ha
end Go.Proofs.YtdbfikcpaionbaaDoor
namespace Go.Proofs.YtdbfikcpaionbaaDoor
open Go.RowKit
theorem quietly_belowF {w w' : World} {v : Value} {e : Ending} (h : QuietlyF v w e w') : e = .returned v ∧ Below w.heap.size w w' := by
  obtain ⟨h1, n, rfl⟩ := h
  exact ⟨h1, belowDrewN n (Below.refl _ _)⟩
theorem Yes.bel {w0 w1 w2 : World} {n : Nat} (hb : Below w0.heap.size w0 w1) (hbel : Below (w1.drewN n).heap.size (w1.drewN n) w2) : Below w0.heap.size w0 w2 :=
  (belowDrewN n hb).trans (hbel.mono hb.size)
end Go.Proofs.YtdbfikcpaionbaaDoor
namespace Go.Proofs.YtdbfikcpaionbaaDoor
open Go.RowKit
end Go.Proofs.YtdbfikcpaionbaaDoor
namespace Go.Proofs.YtdbfikcpaionbaaDoor
open Go.RowKit
theorem byteInfoF : (Tryd.prog.info? 5).map (fun i => (i.zero, i.size, i.bytes)) = some (some (.int .u8 0), 1, 1) := by kernel_rfl
theorem TabAt.below {w w' : World} {B B0 : Nat} {t : Array Nat} (h : TabAt w B t) (hb : Below B0 w w') (hB : B < B0) : TabAt w' B t := (hb.block B hB).trans h
end Go.Proofs.YtdbfikcpaionbaaDoor
/- Which blocks a call may have turned; what stays of rows, blocks, slices elsewhere. -/
namespace Go.Proofs.YtdbfikcpaionbaaDoor
set_option maxRecDepth 100000
open Go.RowKit
/-- only blocks in S, and what is new, may have turned -/
structure Only (S : Nat → Prop) (w w' : World) : Prop where
  os : w'.os = w.os
  tape : w'.tape = w.tape
  output : w'.output = w.output
  size : w.heap.size ≤ w'.heap.size
  block : ∀ k, k < w.heap.size → ¬ S k → w'.heap[k]? = w.heap[k]?
section
variable {S T : Nat → Prop} {w w' w'' : World}
theorem Only.refl (S : Nat → Prop) (w : World) : Only S w w := ⟨rfl, rfl, rfl, Nat.le_refl _, fun _ _ _ => rfl⟩
theorem Only.trans (h : Only S w w') (k : Only S w' w'') : Only S w w'' :=
  ⟨k.os.trans h.os, k.tape.trans h.tape, k.output.trans h.output, Nat.le_trans h.size k.size, fun i hi hn => (k.block i (Nat.lt_of_lt_of_le hi h.size) hn).trans (h.block i hi hn)⟩
/-- what is new since w may have turned as well -/
theorem Only.then_ (h : Only S w w') (k : Only T w' w'') (hT : ∀ i, i < w.heap.size → T i → S i) : Only S w w'' :=
  ⟨k.os.trans h.os, k.tape.trans h.tape, k.output.trans h.output, Nat.le_trans h.size k.size, fun i hi hn => (k.block i (Nat.lt_of_lt_of_le hi h.size) (fun ht => hn (hT i hi ht))).trans (h.block i hi hn)⟩
theorem Only.mono (h : Only S w w') (hS : ∀ i, i < w.heap.size → S i → T i) : Only T w w' :=
  ⟨h.os, h.tape, h.output, h.size, fun i hi hn => h.block i hi (fun hs => hn (hS i hi hs))⟩
theorem Only.of_below (h : Below w.heap.size w w') : Only S w w' := ⟨h.os, h.tape, h.output, h.size, fun i hi _ => h.block i hi⟩
theorem Only.below {B : Nat} (h : Only S w w') (hS : ∀ i, S i → B ≤ i) (hB : B ≤ w.heap.size) : Below B w w' := ⟨h.os, h.tape, h.output, h.size, fun i hi => h.block i (by omega) (fun hs => by have := hS i hs; omega)⟩
theorem Only.of_grown {row : Option Nat} (h : w.grownBy w' row) (hS : ∀ i, row = some i → S i) : Only S w w' := ⟨h.os, h.tape, h.output, h.size, fun i hi hn => h.block i hi (fun e => hn (hS i e.symm))⟩
theorem Only.drew (h : Only S w w') : Only S w w'.drew := ⟨h.os, h.tape, h.output, h.size, h.block⟩
theorem Only.drewN (h : Only S w w') (n : Nat) : Only S w (w'.drewN n) := ⟨h.os, h.tape, h.output, h.size, h.block⟩
theorem Only.alloc (h : Only S w w') (o : Obj) : Only S w (w'.alloc o) :=
  ⟨h.os, h.tape, h.output, Nat.le_trans h.size (by simp), fun i hi hn => (Below.heap_alloc _ _ _ (Nat.lt_of_lt_of_le hi h.size)).trans (h.block i hi hn)⟩
theorem Only.setCell (h : Only S w w') {p : Addr} (hp : p.block < w.heap.size → S p.block) (u : Value) : Only S w (w'.setCell p u) :=
  ⟨h.os, h.tape, h.output, by rw [heapSize_set]; exact h.size, fun i hi hn => (Below.heap_setCell _ _ _ _ (fun e => hn (by subst e; exact hp hi))).trans (h.block i hi hn)⟩
theorem Only.cell (h : Only S w w') {a : Addr} {v : Value} (hc : w.cell? a = some v) (hn : ¬ S a.block) : w'.cell? a = some v := by
  have hlt : a.block < w.heap.size := by
    rcases Nat.lt_or_ge a.block w.heap.size with h1 | h1
    · exact h1
    · simp [World.cell?, Array.getElem?_eq_none h1] at hc
  exact (World.cell?_of_block (h.block _ hlt hn)).trans hc
theorem Only.rd {B : Nat} {A : Option Addr} {xs : List Value} (h : Only S w w') (hr : Rd w B A xs) (hn : ∀ a, A = some a → ¬ S a.block) : Rd w' B A xs := fun hne => by
  obtain ⟨ad, e, hb, hc⟩ := hr hne
  exact ⟨ad, e, hb, fun j u hu => h.cell (hc j u hu) (by rw [add_block]; exact hn ad e)⟩
/-- a block known whole -/
def Blk (w : World) (g : Nat) (t : TypeId) (cs : Array Value) : Prop := w.heap[g]? = some (.cells cs t (0, 0))
theorem Blk.lt {g : Nat} {t : TypeId} {cs : Array Value} (h : Blk w g t cs) : g < w.heap.size := by
  rcases Nat.lt_or_ge g w.heap.size with hlt | hge
  · exact hlt
  · unfold Blk at h; rw [Array.getElem?_eq_none hge] at h; cases h
theorem Blk.keep {g : Nat} {t : TypeId} {cs : Array Value} (h : Blk w g t cs) (ho : Only S w w') (hn : ¬ S g) : Blk w' g t cs := (ho.block g h.lt hn).trans h
theorem Blk.below {B g : Nat} {t : TypeId} {cs : Array Value} (h : Blk w g t cs) (hb : Below B w w') (hg : g < B) : Blk w' g t cs := (hb.block g hg).trans h
theorem Blk.alloc {g : Nat} {t : TypeId} {cs : Array Value} (h : Blk w g t cs) (o : Obj) : Blk (w.alloc o) g t cs := (Below.heap_alloc w o g h.lt).trans h
theorem Blk.far {g : Nat} {t : TypeId} {cs : Array Value} (h : Blk w g t cs) {p : Addr} (hp : g ≠ p.block) (u : Value) : Blk (w.setCell p u) g t cs := (Below.heap_setCell w p u g hp).trans h
theorem Blk.new (w : World) (t : TypeId) (cs : Array Value) : Blk (w.alloc (.cells cs t)) w.heap.size t cs := heapNew w _
theorem Blk.cell {g : Nat} {t : TypeId} {cs : Array Value} (h : Blk w g t cs) (i : Nat) : w.cell? ⟨g, i, none⟩ = cs[i]? := by
  unfold Blk at h; simp [World.cell?, h]
theorem Blk.free {g : Nat} {t : TypeId} {cs : Array Value} (h : Blk w g t cs) (i : Nat) : w.frozen? ⟨g, i, none⟩ = false := freeOf h
theorem Blk.set_ {g : Nat} {t : TypeId} {cs : Array Value} (h : Blk w g t cs) (i : Nat) (u : Value) : Blk (w.setCell ⟨g, i, none⟩ u) g t (cs.setIfInBounds i u) := heapSet u h
/-- a row of the call's own stays where it isn't turned -/
theorem own_keep {base : Nat} {e : TypeId} {size n : Nat} {v : Value} {xs : List Value} (h : w.ownsRow base e size v n xs) (ho : Only S w w') (hn : ∀ g, v.ownBlock = some g → ¬ S g) : w'.ownsRow base e size v n xs := by
  refine ⟨h.1, ?_⟩
  rcases h.2 with ⟨h1, h2⟩ | ⟨g, cap, cur, rfl, hb, hh, r⟩
  · exact .inl ⟨h1, h2⟩
  · have hg : g < w.heap.size := by
      rcases Nat.lt_or_ge g w.heap.size with h1 | h1
      · exact h1
      · rw [Array.getElem?_eq_none h1] at hh; cases hh
    exact .inr ⟨g, cap, cur, rfl, hb, (ho.block g hg (hn g rfl)).trans hh, r⟩
theorem own_alloc {base : Nat} {e : TypeId} {size n : Nat} {v : Value} {xs : List Value} (h : w.ownsRow base e size v n xs) (o : Obj) : (w.alloc o).ownsRow base e size v n xs :=
  own_keep (S := fun _ => False) h ((Only.refl _ _).alloc o) (fun _ _ h => h)
theorem Apped.only {base : Nat} {e : TypeId} {size n : Nat} {v v' : Value} {xs : List Value} (h : Apped w base e size v w' v' n xs) (hS : ∀ g, v.ownBlock = some g → S g) : Only S w w' := Only.of_grown h.grown hS
end
/-- one element's append: the element lies in a block of its own -/
theorem rd_one (w : World) (u : Value) (T : TypeId) : Rd (w.alloc (.cells #[u] T)) (w.heap.size + 1) (some ⟨w.heap.size, 0, none⟩) [u] := rd_new w [u] T (0, 0)
/-- numbers of a kind, as cells -/
def wrd (k : IntKind) (l : List Nat) : List Value := l.map fun (n : Nat) => Value.int k (n : Int)
theorem wrd_len (k : IntKind) (l : List Nat) : (wrd k l).length = l.length := by simp [wrd]
theorem wrd_at {k : IntKind} {l : List Nat} {i : Nat} (h : i < l.length) : (wrd k l)[i]? = some (.int k (l.getD i 0 : Nat)) := by
  simp [wrd, h, List.getD_eq_getElem?_getD]
theorem wrd_one (k : IntKind) (l : List Nat) : ∀ u ∈ wrd k l, u.oneCell' = true := by
  intro u hu
  obtain ⟨n, _, rfl⟩ := List.mem_map.1 hu
  rfl
theorem wrd_app (k : IntKind) (l m : List Nat) : wrd k l ++ wrd k m = wrd k (l ++ m) := by simp [wrd]
theorem Rd.word {w : World} {B : Nat} {A : Option Addr} {k : IntKind} {l : List Nat} (h : Rd w B A (wrd k l)) {i : Nat} (hi : i < l.length) :
    ∃ ad, A = some ad ∧ ad.block < B ∧ w.cell? (ad.add i) = some (.int k (l.getD i 0 : Nat)) := by
  obtain ⟨ad, e, hb, hc⟩ := h (fun h0 => by have := wrd_len k l; rw [h0] at this; simp at this; omega)
  exact ⟨ad, e, hb, hc i _ (wrd_at hi)⟩
/-- numbers in a row of the call's own -/
def OwnK (w : World) (base : Nat) (T : TypeId) (k : IntKind) (v : Value) (l : List Nat) : Prop := w.ownsRow base T 1 v l.length (wrd k l)
theorem OwnK.nil_ (w : World) (base : Nat) (T : TypeId) (k : IntKind) : OwnK w base T k (.slice none 0 0) [] := ⟨rfl, .inl ⟨rfl, rfl⟩⟩
theorem OwnK.rd {w : World} {base : Nat} {T : TypeId} {k : IntKind} {v : Value} {l : List Nat} (h : OwnK w base T k v l) : ∃ A cap, v = .slice A l.length cap ∧ l.length ≤ cap ∧ cap ≤ maxLen ∧ Rd w w.heap.size A (wrd k l) := own_rd h
theorem OwnK.snoc {w w' : World} {base : Nat} {T : TypeId} {k : IntKind} {v v' : Value} {l : List Nat} {c : Nat} (h : Apped w base T 1 v w' v' (l.length + 1) (wrd k l ++ [.int k (c : Int)])) : OwnK w' base T k v' (l ++ [c]) := by
  have := h.own
  unfold OwnK
  rw [List.length_append, ← wrd_app]
  exact this
end Go.Proofs.YtdbfikcpaionbaaDoor
/- Contract: a place's share. -/
namespace Go.Proofs.YtdbfikcpaionbaaDoor
open Go.RowKit
set_option linter.unusedVariables false
def z33 : Array Value := vb (List.replicate 33 0)
theorem zero_share (w : World) : (zeroValue 31).run Tryd.prog w = .ok (.agg z33) w := by kernel_rfl
theorem z33_set (x : Nat) : z33.setIfInBounds 0 (.int .u8 x) = vb (x :: List.replicate 32 0) := by kernel_rfl
theorem vb_oneF (l : List Nat) : (vb l).all (·.oneCell') = true := by
  rw [Array.all_eq_true_iff_forall_mem]
  intro v hv
  simp [vb, byt] at hv
  obtain ⟨n, _, rfl⟩ := hv
  rfl
theorem vb_setF (l : List Nat) (i n : Nat) : (vb l).setIfInBounds i (.int .u8 (n : Int)) = vb (l.set i n) := by
  unfold vb byt
  rw [List.setIfInBounds_toArray]
  congr 1
  rw [List.map_set]
theorem cellLt {w : World} {a : Addr} {v : Value} (h : w.cell? a = some v) : a.block < w.heap.size := by
  rcases Nat.lt_or_ge a.block w.heap.size with h1 | h1
  · exact h1
  · simp [World.cell?, Array.getElem?_eq_none h1] at h
theorem vb_atF (l : List Nat) (i : Nat) (h : i < l.length) : (vb l)[i]? = some (.int .u8 (l.getD i 0 : Nat)) := by
  rw [vb, List.getElem?_toArray]; exact byt_at h
theorem Blk.row {w : World} {g : Nat} {t : TypeId} {old cs : Array Value} (h : Blk w g t old) : Blk (w.setRow g cs) g t cs := setRow_heap w g old cs t (0, 0) h
theorem Blk.rowFar {w : World} {g k : Nat} {t : TypeId} {cs ds : Array Value} (h : Blk w k t cs) (hk : k ≠ g) : Blk (w.setRow g ds) k t cs := (setRow_other w g k ds hk).trans h
theorem Below.setRow {B : Nat} {a w : World} (h : Below B a w) {g : Nat} (hg : B ≤ g) (cs : Array Value) : Below B a (w.setRow g cs) :=
  ⟨h.os, h.tape, h.output, by simpa using h.size, fun k hk => (setRow_other w g k cs (by omega)).trans (h.block k hk)⟩
theorem bel3 {w : World} (a b c : Obj) : Below w.heap.size w (((w.alloc a).alloc b).alloc c) :=
  (((Below.refl _ _).alloc (Nat.le_refl _) _).alloc (by simp) _).alloc (by simp; omega) _
theorem blk3 {w : World} (a b c : Obj) : (((w.alloc a).alloc b).alloc c).heap[w.heap.size + 1 + 1]? = some c := by
  have h := heap_alloc_new ((w.alloc a).alloc b) c
  have e : ((w.alloc a).alloc b).heap.size = w.heap.size + 1 + 1 := by simp
  rw [e] at h
  exact h
theorem blk2 {w : World} (a b c : Obj) : (((w.alloc a).alloc b).alloc c).heap[w.heap.size + 1]? = some b :=
  (Below.heap_alloc _ _ _ (by simp)).trans (heap_alloc2_new w a b)
theorem blk1 {w : World} (a b c : Obj) : (((w.alloc a).alloc b).alloc c).heap[w.heap.size]? = some a :=
  (Below.heap_alloc _ _ _ (by simp; omega)).trans (heap_alloc2_old w a b)
theorem z33_size : z33.size = 33 := by kernel_rfl
theorem z33_ne : ¬ z33 = #[] := fun h => by have h2 := z33_size; rw [h] at h2; simp at h2
theorem block_lt_tab {w : World} {B : Nat} {t : Array Nat} (h : TabAt w B t) : B < w.heap.size := by
  rcases Nat.lt_or_ge B w.heap.size with h1 | h1
  · exact h1
  · rw [TabAt, Array.getElem?_eq_none h1] at h; cases h
/-- what share keeps in memory -/
structure ShW (T : TypeId) (w : World) (s : List Nat) (l : List Nat) (wr : World) : Prop where
  bs : Blk wr w.heap.size T (vb s)
  br : Blk wr (w.heap.size + 1) 31 z33
  bo : Blk wr (w.heap.size + 2) 31 (vb l)
  bel : Below w.heap.size w wr
theorem ShW.next {T : TypeId} {w wr w' : World} {s l : List Nat} (h : ShW T w s l wr) (hb : Below wr.heap.size wr w') : ShW T w s l w' :=
  ⟨h.bs.below hb h.bs.lt, h.br.below hb h.br.lt, h.bo.below hb h.bo.lt, h.bel.trans (hb.mono h.bel.size)⟩
theorem ShW.set_ {T : TypeId} {w wr : World} {s l : List Nat} (h : ShW T w s l wr) (i v : Nat) : ShW T w s (l.set i v) (wr.setCell ⟨w.heap.size + 1 + 1, i, none⟩ (.int .u8 (v : Int))) :=
  ⟨h.bs.far (by show w.heap.size ≠ w.heap.size + 1 + 1; omega) _, h.br.far (by show w.heap.size + 1 ≠ w.heap.size + 1 + 1; omega) _, by have := h.bo.set_ i (.int .u8 (v : Int)); rw [vb_setF] at this; exact this, h.bel.setCell (by show w.heap.size ≤ w.heap.size + 1 + 1; omega) _⟩
theorem ShW.drewN {T : TypeId} {w wr : World} {s l : List Nat} (h : ShW T w s l wr) (n : Nat) : ShW T w s l (wr.drewN n) := ⟨h.bs, h.br, h.bo, belowDrewN n h.bel⟩
end Go.Proofs.YtdbfikcpaionbaaDoor
/- Contract: a place's share, by the document. -/
namespace Go.Proofs.YtdbfikcpaionbaaDoor
open Go.RowKit
set_option linter.unusedVariables false
theorem pl_at (s d : List Nat) (t i J : Nat) (h1 : 1 ≤ J) (h2 : J ≤ kcF t d.length i) : (pl s d t i).getD J 0 = d.getD (32 * (J - 1) + i) 0 := by
  obtain ⟨K, rfl⟩ : ∃ K, J = K + 1 := ⟨J - 1, by omega⟩
  have hK : K < kcF t d.length i := by omega
  simp only [pl, cf, List.getD_cons_succ, Nat.add_sub_cancel]
  rw [List.getD_eq_getElem?_getD, List.getElem?_map, List.getElem?_range hK]
  rfl
theorem quiet_from {P : Program} {f : FuncId} {args : Array Value} {w : World} {n : Nat} {v : Value}
    (h : Calls P f args (w.drewN n) fun e w' => e = .returned v ∧ w.drewN n = w') :
    Calls P f args (w.drewN n) fun e w'' => e = .returned v ∧ ∃ m, w'' = w.drewN m :=
  h.mono fun _ _ ⟨he, hm⟩ => ⟨he, n, hm.symm⟩
theorem pl_zero (s d : List Nat) (t i : Nat) : (pl s d t i).getD 0 0 = s.getD i 0 := rfl
set_option maxRecDepth 100000 in
set_option maxHeartbeats 2000000 in
theorem rshare_c (s d : List Nat) (x t cap : Nat) (A : Option Addr) (w : World) (hs : s.length = 32) (hsl : ∀ c ∈ s, c < 256) (hd : ∀ c ∈ d, c < 256) (hx : x < 256)
    (ht1 : t ≤ 1000000000) (hr : Rd w w.heap.size A (byt d)) (hlen : d.length ≤ 1000000) :
    Calls Tryd.prog 19 #[.agg (vb s), .int .u8 x, .int .i64 t, .slice A d.length cap] w fun e w' => e = .returned (.agg (vb (shr s d t x))) ∧ Below w.heap.size w w' := by
  have HSL := Lib.hid hsl
  have HD := Lib.hid hd
  have HR := Lib.hid hr
  have zs := zero_share
  have zn := z33_size
  have ze := z33_ne
  clear hsl hd hr
  go_enter Tryd.func19, Tryd.ntmps19
  go_upto_region 1 with fail
  go_wp2_with (refine wpList_store_rowTo rfl 31 (.tmp 9) (.tmp 14) rfl rfl (w.heap.size + 1 + 1) (vb (x :: List.replicate 32 0)) rfl (congrArg Value.agg (z33_set x)) 31 z33 (by exact blk3 _ _ _) (by kernel_rfl) (by kernel_rfl) (vb_oneF _) ?_)
  obtain ⟨Z, hZ⟩ : ∃ Z, Z = (((w.alloc (.cells (vb s) 22)).alloc (.cells z33 31)).alloc (.cells z33 31)).setRow (w.heap.size + 1 + 1) (vb (x :: List.replicate 32 0)) := ⟨_, rfl⟩
  have hsh : ShW 22 w s (x :: List.replicate 32 0) Z := by
    rw [hZ]
    exact ⟨Blk.rowFar (blk1 _ _ _) (by omega), Blk.rowFar (blk2 _ _ _) (by omega), Blk.row (old := z33) (blk3 _ _ _), Below.setRow (bel3 _ _ _) (by omega) _⟩
  try simp only [← hZ]
  have HSH := Lib.hid hsh
  clear hsh hZ
  go_loopw [10] (fun i wr => ∃ k : Nat, k ≤ 32 ∧ i = .int .i64 k ∧ ShW 22 w s (x :: sysTo s d t x k) wr) (fun i _ => 32 - (intOf i).toNat)
  case atStart => exact ⟨0, by omega, rfl, by rw [sysTo_zero]; exact HSH.out⟩
  case round =>
    rename World => wr
    obtain ⟨k, hk, rfl, hsh⟩ := hrel
    have HW := Lib.hid hsh
    clear hsh HSH
    by_cases hlt : k < 32
    · have c0 : wr.cell? ⟨w.heap.size, k, none⟩ = some (.int .u8 (s.getD k 0 : Nat)) := (HW.out.bs.cell k).trans (vb_atF s k (by omega))
      have hsk : s.getD k 0 < 256 := getD_lt HSL.out k
      obtain ⟨KC, hKC⟩ : ∃ KC, KC = kcF t d.length k := ⟨_, rfl⟩
      have hKC2 : KC = min (t - 1) ((d.length + 31 - k) / 32) := hKC
      have HKE := Lib.hid hKC
      have HKC := Lib.hid hKC2
      have hKCl : KC ≤ 100000 := by omega
      clear hKC hKC2
      have HBW := Lib.hid HW.out.bel
      have hr1 : reval x (pl s d t k) 1 = s.getD k 0 := by
        show 0 ^^^ gm ((pl s d t k).getD 0 0) 1 = _
        rw [Nat.zero_xor, pl_zero, gm_one _ hsk]
      have HR1 := Lib.hid hr1
      clear hr1
      have hpll : ∀ c ∈ pl s d t k, c < 256 := pl_lt HSL.out HD.out t k
      have HPLL := Lib.hid hpll
      clear hpll
      generalize s.getD k 0 = sk at *
      go_wp2_with fail
      have e19 : decide ((k : Int) < 32) = true := decide_eq_true (by omega)
      try rw [e19]
      go_loopw [11, 12] (fun v j wr2 => ∃ J : Nat, 1 ≤ J ∧ J ≤ KC + 1 ∧ j = .int .i64 J ∧ v = .int .u8 (reval x (pl s d t k) J : Nat) ∧ Below wr.heap.size wr wr2) (fun _ j _ => t - (intOf j).toNat)
      case atStart => exact ⟨1, by omega, by omega, rfl, by rw [HR1.out], Below.refl _ _⟩
      case round =>
        rename World => wr2
        obtain ⟨J, hJ1, hJ, rfl, rfl, hb⟩ := hrel
        have HB := Lib.hid hb
        clear hb c0
        have hv := reval_lt x (pl s d t k) J
        obtain ⟨P, hP⟩ : ∃ P, P = 32 * (J - 1) + k := ⟨_, rfl⟩
        have hat : (32 : Int) * ((J : Int) - 1) + (k : Int) = (P : Int) := by omega
        by_cases h12 : J < t ∧ P < d.length
        · obtain ⟨h1, h2⟩ := h12
          obtain ⟨ad, hA, hadb, hcell⟩ := (HR.out.below (HBW.out.trans (HB.out.mono HBW.out.size))).byte h2
          subst hA
          have hdv : d.getD P 0 < 256 := getD_lt HD.out P
          have hJK : J < KC + 1 := by have := HKC.out; omega
          have hpa : (pl s d t k).getD J 0 = d.getD P 0 := by rw [hP]; exact pl_at s d t k J hJ1 (by rw [← HKE.out]; omega)
          have HST := Lib.hid (show reval x (pl s d t k) (J + 1) = reval x (pl s d t k) J ^^^ gm (d.getD P 0) (gpow x J) by rw [← hpa]; rfl)
          have hcell2 : wr2.drew.cell? (ad.add P) = some (.int .u8 (d.getD P 0 : Nat)) := hcell
          clear hP hpa
          generalize d.getD P 0 = dv at *
          generalize reval x (pl s d t k) J = v at *
          have hp := gpow_lt x J
          have hz := gm_lt dv (gpow x J)
          have HX := Lib.hid (u8_xor_nat v (gm dv (gpow x J)) hv hz)
          have hi1 : (P : Int) < (d.length : Int) := by omega
          obtain ⟨K, hK⟩ : ∃ K, K = J - 1 := ⟨_, rfl⟩
          obtain ⟨Q, hQ⟩ : ∃ Q, Q = 32 * K := ⟨_, rfl⟩
          have w1 : IntKind.i64.wrap ((J : Int) - 1) = (K : Int) := by rw [IntKind.wrap_i64]; omega
          have w2 : IntKind.i64.wrap (32 * (K : Int)) = (Q : Int) := by rw [IntKind.wrap_i64]; omega
          have w3 : IntKind.i64.wrap ((Q : Int) + (k : Int)) = (P : Int) := by rw [IntKind.wrap_i64]; omega
          clear hK hQ
          go_wp2_with fail
          go_quiet (first
            | (go_at_call 30; exact quiet_from (pow_c x J _ hx (by omega)))
            | (go_at_call 29; exact quiet_from (rmul_c dv (gpow x J) _ hdv hp)))
          go_wp2
          go_roundw
          case rel =>
            go_light
            exact ⟨J + 1, by omega, by omega, by go_num, by rw [HST.out, HX.out], belowDrewN _ HB.out⟩
          case measure => simp [intOf]; omega
        · have hJe : J = KC + 1 := by have := HKC.out; omega
          have HSH := Lib.hid (HW.out.next HB.out)
          have hre : reval x (pl s d t k) J = sy s d t x k := by
            have h := reval_is x hx (pl s d t k) HPLL.out
            rw [pl_len, ← HKE.out, ← hJe] at h
            exact h
          have hsy : sy s d t x k < 256 := sy_lt HSL.out HD.out t x k
          have HST := Lib.hid (sysTo_set s d t x k hlt)
          have c5 : wr2.cell? ⟨w.heap.size + 1 + 1, 1 + k, none⟩ = some (.int .u8 ((x :: sysTo s d t x k).getD (1 + k) 0 : Nat)) := (HSH.out.bo.cell (1 + k)).trans (vb_atF _ _ (by simp [sysTo_len]; omega))
          have f5 : wr2.frozen? ⟨w.heap.size + 1 + 1, 1 + k, none⟩ = false := HSH.out.bo.free (1 + k)
          rw [hre]
          clear hre
          obtain ⟨V, hV⟩ : ∃ V, V = sy s d t x k := ⟨_, rfl⟩
          rw [← hV] at HST hsy
          rw [← hV]
          clear hV hv
          have hcase : ¬ J < t ∨ (J < t ∧ ¬ P < d.length) := by omega
          clear h12
          rcases hcase with h1 | ⟨h1, h2⟩
          · clear hat
            go_wp2_with fail
            go_roundw
            case rel =>
              go_light
              refine ⟨k + 1, by omega, by go_num, ?_⟩
              have h := HSH.out.set_ (1 + k) V
              rw [Nat.add_comm 1 k, List.set_cons_succ, HST.out] at h
              rw [Nat.add_comm 1 k]
              exact h
            case measure => simp [intOf]; omega
          · obtain ⟨K, hK⟩ : ∃ K, K = J - 1 := ⟨_, rfl⟩
            obtain ⟨Q, hQ⟩ : ∃ Q, Q = 32 * K := ⟨_, rfl⟩
            have w1 : IntKind.i64.wrap ((J : Int) - 1) = (K : Int) := by rw [IntKind.wrap_i64]; omega
            have w2 : IntKind.i64.wrap (32 * (K : Int)) = (Q : Int) := by rw [IntKind.wrap_i64]; omega
            have w3 : IntKind.i64.wrap ((Q : Int) + (k : Int)) = (P : Int) := by rw [IntKind.wrap_i64]; omega
            clear hK hQ hP
            go_wp2_with fail
            go_roundw
            case rel =>
              go_light
              refine ⟨k + 1, by omega, by go_num, ?_⟩
              have h := HSH.out.set_ (1 + k) V
              rw [Nat.add_comm 1 k, List.set_cons_succ, HST.out] at h
              rw [Nat.add_comm 1 k]
              exact h
            case measure => simp [intOf]; omega
    · have hk32 : k = 32 := by omega
      subst hk32
      have hall := sysTo_all s d t x
      rw [hall] at HW
      clear hall
      have hbo : wr.heap[w.heap.size + 1 + 1]? = some (.cells (vb (x :: sys s d t x)) 31 (0, 0)) := HW.out.bo
      have hbr : wr.heap[w.heap.size + 1]? = some (.cells z33 31 (0, 0)) := HW.out.br
      have hsz : (Tryd.prog.info? 31).map (·.size) = some 33 := by kernel_rfl
      have hvs : (vb (x :: sys s d t x)).size = 33 := by rw [vb_size, List.length_cons, sys_len]
      have HBO := Lib.hid hbo
      have HBR := Lib.hid hbr
      have HVS := Lib.hid (show (Tryd.prog.info? 31).map (·.size) = some (vb (x :: sys s d t x)).size by rw [hvs]; exact hsz)
      have HOS := Lib.hid (show z33.size = (vb (x :: sys s d t x)).size by rw [hvs]; exact zn)
      clear hbo hbr hsz hvs
      go_wp2_with (first
        | (refine wpList_load_row rfl 31 (.tmp 9) rfl (w.heap.size + 1 + 1) rfl 31 _ _ _ HBO.out Tryd.underlying31 rfl HVS.out ?_)
        | (refine wpList_store_rowTo rfl 31 (.tmp 8) (.tmp 55) rfl rfl (w.heap.size + 1) (vb (x :: sys s d t x)) rfl rfl 31 z33 HBR.out HVS.out HOS.out (vb_oneF _) ?_))
      (try simp only [Exit.inBlock, Exit.then])
      refine bodyPost_ret (results_cell_row rfl _ _ (w.heap.size + 1) 31 (vb (x :: sys s d t x)) (0, 0) _ rfl (Blk.row (old := z33) HBR.out) Tryd.underlying31 rfl HVS.out) rfl ?_
      exact ⟨rfl, Below.setRow HW.out.bel (by omega) _⟩
end Go.Proofs.YtdbfikcpaionbaaDoor
/- Contract: Split. -/
namespace Go.Proofs.YtdbfikcpaionbaaDoor
open Go.RowKit
set_option linter.unusedVariables false
theorem shInfo : (Tryd.prog.info? 31).map (fun i => (i.zero, i.size, i.bytes)) = some (some (.agg z33), 33, 33) := by kernel_rfl
section
variable {P : Program}
theorem wpList_buildOne {ops : Array Oper} {rest : List Oper} {o : Oper} {a : Act} {w : World} {Q : Exit → Act → World → Prop} (hg : o.guard = none) (t e : TypeId) (x : Operand) (ho : o.op = .buildSlice t 1 #[(0, x)])
    (cs : Array Value) (hx : a.eval x = .agg cs) (ie : TypeInfo) (z : Value) (size : Nat)
    (hu : P.underlying t = some (.slice e)) (hie : P.info? e = some ie) (hz : ie.zero = some z) (hs : ie.size = size) (hcs : cs.size = size) (hpos : 0 < size) (hsmall : size ≤ 2 ^ 24)
    (h : wpList P ops Q rest (a.put o.dst (.slice (some ⟨w.heap.size, 0, none⟩) 1 1)) (w.alloc (.cells cs e))) : wpList P ops Q (o :: rest) a w := by
  refine wpList_buildSlice hg t e 1 #[(0, x)] ho cs ie z hu hie hz (by rw [hs]; omega) (by rw [hs]; omega) ?_ h
  have h1 := Great.fill_whole (s := size) hpos [.agg cs] ((Array.range (1 * size)).map (z.cells[· % z.cells.size]!)) (fun v hv => by
    rw [List.mem_singleton.1 hv]; exact hcs) (by simp)
  rw [hs]
  have e1 : (#[(0, x)].map fun (p : Nat × Operand) => (p.1, a.eval p.2)).toList = (([Value.agg cs].zipIdx 0).map fun x => (x.2, x.1)) := by
    simp [hx]
  refine (congrArg _ e1).trans (h1.trans ?_)
  simp [Value.cells]
end
/-- shares in a row -/
def shf (s d : List Nat) (t n : Nat) : List Nat := (List.range n).flatMap fun i => shr s d t (i + 1)
theorem shf_succ (s d : List Nat) (t n : Nat) : shf s d t (n + 1) = shf s d t n ++ shr s d t (n + 1) := by simp [shf, List.range_succ]
theorem shf_len (s d : List Nat) (t n : Nat) : (shf s d t n).length = n * 33 := by
  induction n with
  | zero => rfl
  | succ n ih => rw [shf_succ, List.length_append, ih, shr_len]; omega
theorem own_base_leF {w : World} {base base' : Nat} {e : TypeId} {size n : Nat} {v : Value} {xs : List Value} (h : w.ownsRow base e size v n xs) (hb : base' ≤ base) : w.ownsRow base' e size v n xs := by
  refine ⟨h.1, ?_⟩
  rcases h.2 with h0 | ⟨g, cap, cur, h1, h2, h3⟩
  · exact .inl h0
  · exact .inr ⟨g, cap, cur, h1, Nat.le_trans hb h2, h3⟩
/-- shares in a row of the call's own -/
def OwnS (w : World) (base : Nat) (v : Value) (n : Nat) (l : List Nat) : Prop := w.ownsRow base 31 33 v n (byt l)
theorem OwnS.nil_ (w : World) (base : Nat) : OwnS w base (.slice none 0 0) 0 [] := ⟨rfl, .inl ⟨rfl, rfl⟩⟩
def GivesS (n : Nat) (l : List Nat) (er : Int) (w : World) (e : Ending) (w' : World) : Prop := ∃ v, e = .returned (.tuple #[v, .int .i64 er]) ∧ OwnS w' w.heap.size v n l ∧ Below w.heap.size w w'
end Go.Proofs.YtdbfikcpaionbaaDoor
/- '==' on shares. -/
namespace Go.Proofs.YtdbfikcpaionbaaDoor
open Go.RowKit
set_option linter.unusedVariables false
theorem keyLits_one {P : Program} {e : TypeId} {D : Nat} (he : P.underlying e = some (.int .u8)) (x : Nat) (hx : x < 256) : P.keyLits (D + 1) e [.int .u8 (x : Int)] = some [Lit.int .u8 (x : Int)] := by
  have hw : (Lit.int .u8 (x : Int)).wf = true := WalkArith.wf_u8 ⟨by omega, by omega⟩
  simp only [Program.keyLits, he]
  rw [if_pos (by first | exact hw | exact ⟨trivial, hw⟩)]
theorem keyLits_share (x : Nat) (l : List Nat) (hx : x < 256) (hl : l.length = 32) (hs : ∀ c ∈ l, c < 256) :
    Tryd.prog.keyLits 3 31 (byt (x :: l)) = some ((x :: l).map fun (c : Nat) => Lit.int .u8 (c : Int)) := by
  have hf : ∃ f0 f1 : Field, Tryd.prog.underlying 31 = some (.struct #[f0, f1]) ∧ f0.offset = 0 ∧ f1.offset = 1 ∧ f0.type = 5 ∧ f1.type = 23 ∧ (#[f0, f1].all (·.name != "_")) = true := ⟨_, _, Tryd.underlying31, rfl, rfl, rfl, rfl, by kernel_rfl⟩
  obtain ⟨f0, f1, hu, o0, o1, k0, k1, hn⟩ := hf
  have hC : Tryd.prog.cellsOf 31 = 33 := by kernel_rfl
  have hc0 : Tryd.prog.cellsOf 5 = 1 := by kernel_rfl
  have hc1 : Tryd.prog.cellsOf 23 = 32 := by kernel_rfl
  have hstep : Tryd.prog.keyLits 3 31 (byt (x :: l)) = if (byt (x :: l)).length = Tryd.prog.cellsOf 31 ∧ (#[f0, f1].all (·.name != "_")) = true then ([f0, f1].mapM fun f => Tryd.prog.keyLits 2 f.type (((byt (x :: l)).drop f.offset).take (Tryd.prog.cellsOf f.type))).map List.flatten else none := by
    conv => lhs; unfold Program.keyLits
    rw [hu]
  have e0 : Tryd.prog.keyLits 2 f0.type (((byt (x :: l)).drop f0.offset).take (Tryd.prog.cellsOf f0.type)) = some [Lit.int .u8 (x : Int)] := by
    rw [k0, o0, hc0]
    exact keyLits_one (D := 1) Tryd.underlying5 x hx
  have e1 : Tryd.prog.keyLits 2 f1.type (((byt (x :: l)).drop f1.offset).take (Tryd.prog.cellsOf f1.type)) = some (l.map fun (c : Nat) => Lit.int .u8 (c : Int)) := by
    rw [k1, o1, hc1]
    have : ((byt (x :: l)).drop 1).take 32 = byt l := by
      show (byt l).take 32 = byt l
      rw [List.take_of_length_le (by rw [byt_len]; omega)]
    rw [this]
    exact keyLits_bytes (D := 0) Tryd.underlying23 Tryd.underlying5 hc1 hc0 l hl hs
  rw [hstep, if_pos ⟨by rw [byt_len, hC, List.length_cons, hl], hn⟩, List.mapM_cons, e0, List.mapM_cons, e1, List.mapM_nil]
  simp
/-- '==' on shares -/
theorem run_equalIn_share (l m : List Nat) (hl : l.length = 33) (hm : m.length = 33) (hs : ∀ c ∈ l, c < 256) (hs2 : ∀ c ∈ m, c < 256) (w : World) :
    (Op.equalIn 10000 31 (.agg (vb l)) (.agg (vb m))).run Tryd.prog w = .ok (l == m) w := by
  have hk : Tryd.prog.keyTypeAt 3 31 = true := by kernel_rfl
  have hC : Tryd.prog.cellsOf 31 = 33 := by kernel_rfl
  have hf : ∀ k : List Nat, k.length = 33 → (Value.agg (vb k)).formed Tryd.prog 31 = true := fun k h => by simp [Value.formed, Tryd.underlying31, hC, vb_size, h]
  have key : ∀ k : List Nat, k.length = 33 → (∀ c ∈ k, c < 256) → Tryd.prog.keyLits 3 31 (byt k) = some (k.map fun (c : Nat) => Lit.int .u8 (c : Int)) := by
    intro k h1 h2
    cases k with
    | nil => simp at h1
    | cons a k => exact keyLits_share a k (h2 a (by simp)) (by simpa using h1) (fun c hc => h2 c (by simp [hc]))
  obtain ⟨r, hr, hiff⟩ := run_equalIn_deep (P := Tryd.prog) 9997 3 31 hk w 3 3 (.agg (vb l)) (.agg (vb m)) _ _ (hf l hl) (hf m hm)
    (by simpa [Value.cells, vb] using key l hl hs) (by simpa [Value.cells, vb] using key m hm hs2)
  rw [show 9997 + 3 = 10000 from rfl] at hr
  rw [hr]
  congr 1
  by_cases h : l = m
  · subst h; rw [hiff.2 rfl]; simp
  · have : r = false := by
      cases r with
      | true => exact absurd (lits_inj (hiff.1 rfl)) h
      | false => rfl
    rw [this]; simp [h]
end Go.Proofs.YtdbfikcpaionbaaDoor
/- A load of many cells in a region that draws its order. -/
namespace Go.Proofs.YtdbfikcpaionbaaDoor
open Go.RowKit
set_option linter.unusedVariables false
section
variable {P : Program} {ops : Array Oper} {C : World → Prop} {Q : Act → Prop} {a : Act} {o : Oper} {rest : List Oper}
theorem wpQuiet_load_mid (hw : Region.wanted o (yielded ops a.tmps) = true) (ty : TypeId) (x : Operand) (ho : o.op = .load ty x) (b off : Nat) (hx : a.eval x = .pointer (some ⟨b, off, none⟩))
    (l : List Nat) (d : TypeDesc) (hC : ∀ w, C w → w.rangeAt b off (byt l)) (hu : P.underlying ty = some d) (hd : d.isRow = true) (hi : (P.info? ty).map (·.size) = some (byt l).length)
    (a' : Act) (ha : a.put o.dst (.agg (vb l)) = a') (h : wpQuiet P ops C Q rest a') : wpQuiet P ops C Q (o :: rest) a := by
  refine BigFrame.wpQuiet_want hw fun K hK => ⟨.agg (vb l), fun w hw' => ?_, ?_⟩
  · unfold Oper.quietAt execOp
    simp only [ho, hx, Instr.loadAt, Instr.sureAddr, Sem.run_bind, Sem.run_pure, Result.andThen_ok, run_loadVar_mid w b off ty (byt l) d (hC w hw') hu hd hi]
    exact ⟨rfl, rfl⟩
  · rw [ha]; exact hK _ h
/-- '==', '!=' whose answer is known -/
theorem wpQuiet_bin (hw : Region.wanted o (yielded ops a.tmps) = true) (op : BinOp) (tx : TypeId) (x y : Operand) (ty : TypeId) (ho : o.op = .binOp op tx x y ty) (u v r : Value) (hx : a.eval x = u) (hy : a.eval y = v)
    (hr : ∀ w, C w → (execOp a.eval o).run P w = .ok (.value r) w)
    (a' : Act) (ha : a.put o.dst r = a') (h : wpQuiet P ops C Q rest a') : wpQuiet P ops C Q (o :: rest) a := by
  refine BigFrame.wpQuiet_want hw fun K hK => ⟨r, fun w hw' => ?_, ?_⟩
  · unfold Oper.quietAt
    rw [hr w hw']
    exact ⟨rfl, rfl⟩
  · rw [ha]; exact hK _ h
end
theorem ext_range {w0 : World} {b off : Nat} {cs : List Value} (h : w0.rangeAt b off cs) : ∀ w, (∃ x : Ext w0, w = x.wd) → w.rangeAt b off cs := by
  rintro _ ⟨x, rfl⟩ j u hu
  exact x.cell (h j u hu)
theorem rangeAt_blkF {w : World} {g : Nat} {t : TypeId} {l : List Nat} (h : Blk w g t (vb l)) : w.rangeAt g 0 (byt l) := fun j u hu => by
  rw [Nat.zero_add]
  exact (h.cell j).trans (by rw [← hu, vb, List.getElem?_toArray])
end Go.Proofs.YtdbfikcpaionbaaDoor
/- The example of the statements on shares. -/
namespace Go.Proofs.YtdbfikcpaionbaaDoor
open Go.RowKit
set_option linter.unusedVariables false
def z32 : Array Value := vb (List.replicate 32 0)
def s7 : List Nat := [7, 7, 7] ++ List.replicate 29 0
theorem zero_key (w : World) : (zeroValue 23).run Tryd.prog w = .ok (.agg z32) w := by kernel_rfl
theorem s7_share : shr s7 [] 1 3 = 3 :: s7 := by decide +kernel
theorem s7_shares : shf s7 [] 1 3 = shr s7 [] 1 1 ++ shr s7 [] 1 2 ++ (3 :: s7) := by decide +kernel
theorem s7_len : s7.length = 32 := by decide
theorem s7_lt : ∀ c ∈ s7, c < 256 := by decide
end Go.Proofs.YtdbfikcpaionbaaDoor
/- ShamirSplits: the walk. -/
namespace Go.Proofs.YtdbfikcpaionbaaDoor
open Go.RowKit
set_option linter.unusedVariables false
theorem shf_at (s d : List Nat) (t n : Nat) : ∀ k j, k < n → j < 33 → (shf s d t n)[k * 33 + j]? = (shr s d t (k + 1))[j]? := by
  induction n with
  | zero => intro k j h; omega
  | succ n ih =>
    intro k j h hj
    rw [shf_succ]
    rcases Nat.lt_or_ge k n with h1 | h1
    · rw [List.getElem?_append_left (by rw [shf_len]; omega)]
      exact ih k j h1 hj
    · obtain rfl : k = n := by omega
      rw [List.getElem?_append_right (by rw [shf_len]; omega), shf_len, Nat.add_sub_cancel_left]
theorem OwnS.cells {w : World} {base g cap n : Nat} {l : List Nat} (h : OwnS w base (.slice (some ⟨g, 0, none⟩) n cap) n l) : ∀ j u, (byt l)[j]? = some u → w.cell? ⟨g, j, none⟩ = some u := by
  rcases h.2 with ⟨h0, _⟩ | ⟨g', cap', cur, he, hg, hh, hn, hm, hc, ht⟩
  · cases h0
  · injection he with he1 _ _
    injection he1 with he1
    injection he1 with he1 _ _
    subst he1
    intro j u hu
    refine cellOf hh ?_
    rw [← ht] at hu
    have hj : j < n * 33 := by
      rcases Nat.lt_or_ge j (n * 33) with h1 | h1
      · exact h1
      · rw [List.getElem?_eq_none (by rw [List.length_take]; omega)] at hu; cases hu
    rw [List.getElem?_take_of_lt hj] at hu
    simpa using hu
theorem OwnS.share {w : World} {base g cap n t : Nat} {s d : List Nat} (h : OwnS w base (.slice (some ⟨g, 0, none⟩) n cap) n (shf s d t n)) {k : Nat} (hk : k < n) : w.rangeAt g (k * 33) (byt (shr s d t (k + 1))) := fun j u hu => by
  refine h.cells (k * 33 + j) u ?_
  have hj : j < 33 := by
    rcases Nat.lt_or_ge j 33 with h1 | h1
    · exact h1
    · rw [List.getElem?_eq_none (by rw [byt_len, shr_len]; omega)] at hu; cases hu
  rw [← hu]
  unfold byt
  rw [List.getElem?_map, List.getElem?_map, shf_at s d t n k j hk hj]
theorem OwnS.open_ {w : World} {base n : Nat} {v : Value} {l : List Nat} (h : OwnS w base v n l) (hn : 0 < n) : ∃ g cap, v = .slice (some ⟨g, 0, none⟩) n cap ∧ base ≤ g ∧ n ≤ cap ∧ cap ≤ maxLen := by
  rcases h.2 with ⟨_, h0⟩ | ⟨g, cap, cur, rfl, hg, hh, hn, hm, hc, ht⟩
  · omega
  · exact ⟨g, cap, rfl, hg, hn, hm⟩
theorem shr_lt {s d : List Nat} {t x : Nat} (hx : x < 256) (hs : ∀ c ∈ s, c < 256) (hd : ∀ c ∈ d, c < 256) : ∀ c ∈ shr s d t x, c < 256 := by
  intro c hc
  rcases List.mem_cons.1 hc with rfl | hc
  · exact hx
  · obtain ⟨i, _, rfl⟩ := List.mem_map.1 hc
    exact sy_lt hs hd t x i
theorem key_size (s : List Nat) (hs : s.length = 32) : (Tryd.prog.info? 23).map (·.size) = some (vb s).size := by rw [vb_size, hs]; kernel_rfl
theorem key_bytes (s : List Nat) (hs : s.length = 32) : (Tryd.prog.info? 23).map (·.size) = some (byt s).length := by rw [byt_len, hs]; kernel_rfl
theorem share_bytes (s : List Nat) (hs : s.length = 33) : (Tryd.prog.info? 31).map (·.size) = some (byt s).length := by rw [byt_len, hs]; kernel_rfl
end Go.Proofs.YtdbfikcpaionbaaDoor
/- ShamirSplits: the walk, where the shares are made. -/
namespace Go.Proofs.YtdbfikcpaionbaaDoor
open Go.RowKit
set_option linter.unusedVariables false
end Go.Proofs.YtdbfikcpaionbaaDoor
/- ShamirHides: the plain side; laws for regions that draw their order. -/
namespace Go.Proofs.YtdbfikcpaionbaaDoor
open Go.RowKit
set_option linter.unusedVariables false
/-- the first k values, the rest still 0 -/
def fTo (f : Nat → Nat) (k : Nat) : List Nat := (List.range 32).map fun i => if i < k then f i else 0
theorem fTo_zero (f : Nat → Nat) : fTo f 0 = List.replicate 32 0 := by
  rw [List.eq_replicate_iff]; simp [fTo]
theorem fTo_len (f : Nat → Nat) (k : Nat) : (fTo f k).length = 32 := by simp [fTo]
theorem fTo_at (f : Nat → Nat) (k i : Nat) (h : i < 32) : (fTo f k).getD i 0 = if i < k then f i else 0 := by
  simp [fTo, List.getD_eq_getElem?_getD, h]
theorem fTo_lt {f : Nat → Nat} (hf : ∀ i, f i < 256) (k : Nat) : ∀ c ∈ fTo f k, c < 256 := by
  intro c hc
  obtain ⟨i, _, rfl⟩ := List.mem_map.1 hc
  split
  · exact hf i
  · omega
theorem fTo_set (f : Nat → Nat) (k : Nat) : (fTo f k).set k (f k) = fTo f (k + 1) := by
  apply List.ext_getElem
  · simp [fTo]
  · intro i h1 h2
    simp only [fTo, List.getElem_set, List.getElem_map, List.getElem_range]
    by_cases h : k = i
    · subst h; simp
    · rw [if_neg h]
      by_cases h3 : i < k
      · rw [if_pos h3, if_pos (by omega)]
      · rw [if_neg h3, if_neg (by omega)]
/-- the draws that hide another secret -/
def oth (a b d : List Nat) (v i : Nat) : Nat := gm (a.getD i 0 ^^^ b.getD i 0) v ^^^ d.getD i 0
theorem xor_lt256 {a b : Nat} (ha : a < 256) (hb : b < 256) : a ^^^ b < 256 := Nat.xor_lt_two_pow (n := 8) ha hb
theorem oth_lt {a b d : List Nat} (hd : ∀ c ∈ d, c < 256) (v i : Nat) : oth a b d v i < 256 := xor_lt256 (gm_lt _ _) (getD_lt hd i)
theorem sy_two (s d : List Nat) (x i : Nat) (hi : i < 32) (hl : d.length = 32) : sy s d 2 x i = gm (d.getD i 0) x ^^^ s.getD i 0 := by
  have hk : kcF 2 d.length i = 1 := by unfold kcF; rw [hl]; omega
  unfold sy pl
  rw [hk]
  show gm (gm 0 x ^^^ d.getD (32 * 0 + i) 0) x ^^^ s.getD i 0 = _
  rw [zero_gm, Nat.zero_xor, Nat.mul_zero, Nat.zero_add]
theorem gm_rinv (x : Nat) (hx : x < 256) (h0 : x ≠ 0) : gm (rinv x) x = 1 := by
  have h := gm_tinv x hx h0
  rw [← rinv_is x hx h0] at h
  rw [gm_comm _ _ (by rw [rinv_is x hx h0]; exact tinv_lt ftab_small x) hx]
  exact h
theorem hides_eq (a b d : List Nat) (x : Nat) (hx : x < 256) (h0 : x ≠ 0) (ha : ∀ c ∈ a, c < 256) (hb : ∀ c ∈ b, c < 256) (hd : ∀ c ∈ d, c < 256) (hl : d.length = 32) :
    shr b (fTo (oth a b d (rinv x)) 32) 2 x = shr a d 2 x := by
  have hr : rinv x < 256 := by rw [rinv_is x hx h0]; exact tinv_lt ftab_small x
  unfold shr sys
  congr 1
  apply List.map_congr_left
  intro i hi
  have hi := List.mem_range.1 hi
  rw [sy_two _ _ _ _ hi (fTo_len _ _), sy_two _ _ _ _ hi hl, fTo_at _ _ _ hi, if_pos hi]
  unfold oth
  have hab := xor_lt256 (getD_lt ha i) (getD_lt hb i)
  rw [gm_left, gm_assoc _ _ _ hab hr hx, gm_rinv x hx h0, gm_one _ hab]
  generalize gm (d.getD i 0) x = q
  generalize a.getD i 0 = u
  generalize b.getD i 0 = v
  rw [Nat.xor_assoc u v q, Nat.xor_comm v q, ← Nat.xor_assoc u q v, Nat.xor_assoc, Nat.xor_self, Nat.xor_zero, Nat.xor_comm]
theorem rd_blkF {w : World} {g B : Nat} {t : TypeId} {l : List Nat} (h : Blk w g t (vb l)) (hB : g < B) : Rd w B (some ⟨g, 0, none⟩) (byt l) := fun _ =>
  ⟨⟨g, 0, none⟩, rfl, hB, fun j u hu => by
    have e1 : (Addr.add ⟨g, 0, none⟩ j) = ⟨g, j, none⟩ := by
      unfold Addr.add; split
      · subst_vars; rfl
      · simp
    rw [e1]
    exact (h.cell j).trans (by rw [← hu, vb, List.getElem?_toArray])⟩
section
variable {P : Program} {ops : Array Oper} {w : World} {Q : Act → Prop} {a : Act} {o : Oper} {rest : List Oper}
theorem wpStill_load_mid (hw : Region.wanted o (yielded ops a.tmps) = true) (ty : TypeId) (x : Operand) (ho : o.op = .load ty x) (b off : Nat) (hx : a.eval x = .pointer (some ⟨b, off, none⟩))
    (l : List Nat) (d : TypeDesc) (hc : w.rangeAt b off (byt l)) (hu : P.underlying ty = some d) (hd : d.isRow = true) (hi : (P.info? ty).map (·.size) = some (byt l).length)
    (a' : Act) (ha : a.put o.dst (.agg (vb l)) = a') (h : wpStill P ops w Q rest a') : wpStill P ops w Q (o :: rest) a := by
  refine wpStill_step fun K hK => ?_
  rw [if_pos hw]
  have hrun : (execOp a.eval o).run P w = .ok (.value (.agg (vb l))) w := by
    unfold execOp
    simp only [ho, hx, Instr.loadAt, Instr.sureAddr, Sem.run_bind, Sem.run_pure, Result.andThen_ok, run_loadVar_mid w b off ty (byt l) d hc hu hd hi]
    rfl
  unfold Oper.still
  rw [hrun, Oper.stillUpon_value, ha]
  exact hK _ h
end
end Go.Proofs.YtdbfikcpaionbaaDoor
/- Many cells from any address on: loads. -/
namespace Go.Proofs.YtdbfikcpaionbaaDoor
open Go.RowKit
set_option linter.unusedVariables false
/-- cells from an address on -/
def AtA (w : World) (a : Addr) (cs : List Value) : Prop := ∀ j v, cs[j]? = some v → w.cell? (a.add j) = some v
theorem AtA.drop {w : World} {a : Addr} {cs : List Value} (h : AtA w a cs) (k n : Nat) : AtA w (a.add k) ((cs.drop k).take n) := fun j v hv => by
  rw [Addr.add_add]
  have hj : j < n := by
    rcases Nat.lt_or_ge j n with h1 | h1
    · exact h1
    · rw [List.getElem?_eq_none (by rw [List.length_take]; omega)] at hv; cases hv
  rw [List.getElem?_take_of_lt hj, List.getElem?_drop] at hv
  exact h (k + j) v hv
theorem AtA.below {w w' : World} {a : Addr} {cs : List Value} {B : Nat} (h : AtA w a cs) (hb : Below B w w') (ha : a.block < B) : AtA w' a cs := fun j v hv =>
  (hb.cell (by rw [add_block]; exact ha)).trans (h j v hv)
section
variable {P : Program}
theorem run_loadVar_at (w : World) (a : Addr) (ty : TypeId) (cs : List Value) (d : TypeDesc) (hc : AtA w a cs)
    (hu : P.underlying ty = some d) (hd : d.isRow = true) (hi : (P.info? ty).map (·.size) = some cs.length) :
    (loadVar ty a).run P w = .ok (.agg cs.toArray) w := by
  have hl : (loadCells a cs.length).run P w = .ok cs.toArray w := run_loadCells_list (P := P) w a cs hc
  cases hq : P.info? ty with
  | none => simp [hq] at hi
  | some i =>
    have hs : i.size = cs.length := by simpa [hq] using hi
    have hagg : (isAgg ty).run P w = .ok true w := by
      unfold isAgg
      rw [Sem.run_bind, run_underlying hu w]
      cases d <;> simp_all
    simp [loadVar, Sem.run_bind, hagg, sizeOf, typeInfo, hq, hs, hl]
theorem wpList_load_at {ops : Array Oper} {rest : List Oper} {op : Oper} {a : Act} {w : World} {Q : Exit → Act → World → Prop} (hgd : op.guard = none) (ty : TypeId) (x : Operand) (ho : op.op = .load ty x)
    (b : Addr) (hx : a.eval x = .pointer (some b)) (l : List Nat) (d : TypeDesc) (hc : AtA w b (byt l))
    (hu : P.underlying ty = some d) (hd : d.isRow = true) (hi : (P.info? ty).map (·.size) = some (byt l).length)
    (h : wpList P ops Q rest (a.put op.dst (.agg (vb l))) w) : wpList P ops Q (op :: rest) a w :=
  wpList_plain hgd fun _ hK => by
    unfold Oper.wp execOp
    simp only [ho, hx, Instr.loadAt, Instr.sureAddr, Sem.run_bind, Sem.run_pure, Result.andThen_ok, run_loadVar_at w b ty (byt l) d hc hu hd hi]
    exact hK _ _ h
theorem wpQuiet_load_at {ops : Array Oper} {C : World → Prop} {Q : Act → Prop} {a : Act} {o : Oper} {rest : List Oper} (hw : Region.wanted o (yielded ops a.tmps) = true) (ty : TypeId) (x : Operand) (ho : o.op = .load ty x) (b : Addr) (hx : a.eval x = .pointer (some b))
    (l : List Nat) (d : TypeDesc) (hC : ∀ w, C w → AtA w b (byt l)) (hu : P.underlying ty = some d) (hd : d.isRow = true) (hi : (P.info? ty).map (·.size) = some (byt l).length)
    (a' : Act) (ha : a.put o.dst (.agg (vb l)) = a') (h : wpQuiet P ops C Q rest a') : wpQuiet P ops C Q (o :: rest) a := by
  refine BigFrame.wpQuiet_want hw fun K hK => ⟨.agg (vb l), fun w hw' => ?_, ?_⟩
  · unfold Oper.quietAt execOp
    simp only [ho, hx, Instr.loadAt, Instr.sureAddr, Sem.run_bind, Sem.run_pure, Result.andThen_ok, run_loadVar_at w b ty (byt l) d (hC w hw') hu hd hi]
    exact ⟨rfl, rfl⟩
  · rw [ha]; exact hK _ h
end
/-- shares in a row that came from anywhere -/
def shX (L : List Nat) (i : Nat) : Nat := L.getD (i * 33) 0
def shY (L : List Nat) (i k : Nat) : Nat := L.getD (i * 33 + (1 + k)) 0
def shR (L : List Nat) (i : Nat) : List Nat := (L.drop (i * 33)).take 33
theorem shR_len {L : List Nat} {n i : Nat} (hL : L.length = n * 33) (hi : i < n) : (shR L i).length = 33 := by
  unfold shR; rw [List.length_take, List.length_drop, hL]; omega
theorem shR_at (L : List Nat) (i j : Nat) (hj : j < 33) : (shR L i).getD j 0 = L.getD (i * 33 + j) 0 := by
  unfold shR
  rw [List.getD_eq_getElem?_getD, List.getElem?_take_of_lt hj, List.getElem?_drop, List.getD_eq_getElem?_getD]
theorem shR_lt {L : List Nat} (h : ∀ c ∈ L, c < 256) (i : Nat) : ∀ c ∈ shR L i, c < 256 := fun c hc => h c (List.mem_of_mem_drop (List.mem_of_mem_take hc))
theorem byt_shR (L : List Nat) (i : Nat) : byt (shR L i) = ((byt L).drop (i * 33)).take 33 := by simp [byt, shR, List.map_take, List.map_drop]
/-- the shares' memory -/
def RdS (w : World) (B : Nat) (A : Option Addr) (n : Nat) (L : List Nat) : Prop := L.length = n * 33 ∧ Rd w B A (byt L)
theorem RdS.open_ {w : World} {B n : Nat} {A : Option Addr} {L : List Nat} (h : RdS w B A n L) (hn : 0 < n) : ∃ ad, A = some ad ∧ ad.block < B ∧ AtA w ad (byt L) := by
  have hne : byt L ≠ [] := fun h0 => by
    have := congrArg List.length h0
    rw [byt_len, h.1] at this
    simp at this; omega
  obtain ⟨ad, rfl, hb, hc⟩ := h.2 hne
  exact ⟨ad, rfl, hb, hc⟩
theorem AtA.share {w : World} {ad : Addr} {L : List Nat} (h : AtA w ad (byt L)) (i : Nat) : AtA w (ad.add (i * 33)) (byt (shR L i)) := by
  rw [byt_shR]; exact h.drop (i * 33) 33
theorem AtA.x {w : World} {ad : Addr} {L : List Nat} {n i : Nat} (h : AtA w ad (byt L)) (hL : L.length = n * 33) (hi : i < n) : w.cell? (ad.add (i * 33)) = some (.int .u8 (shX L i : Nat)) :=
  h (i * 33) _ (byt_at (by rw [hL]; omega))
end Go.Proofs.YtdbfikcpaionbaaDoor
/- Contracts: places; the reference's Places. -/
namespace Go.Proofs.YtdbfikcpaionbaaDoor
open Go.RowKit
set_option linter.unusedVariables false
def hasX (L : List Nat) (i k : Nat) : Bool := (List.range k).any fun j => shX L j == shX L i
def dupX (L : List Nat) (k : Nat) : Bool := (List.range k).any fun i => hasX L i i
def zeroX (L : List Nat) (k : Nat) : Bool := (List.range k).any fun i => shX L i == 0
theorem hasX_succ (L : List Nat) (i k : Nat) : hasX L i (k + 1) = (hasX L i k || shX L k == shX L i) := by simp [hasX, List.range_succ]
theorem dupX_succ (L : List Nat) (k : Nat) : dupX L (k + 1) = (dupX L k || hasX L k k) := by simp [dupX, List.range_succ]
theorem zeroX_succ (L : List Nat) (k : Nat) : zeroX L (k + 1) = (zeroX L k || shX L k == 0) := by simp [zeroX, List.range_succ]
theorem hasX_of {L : List Nat} {i j k : Nat} (hj : j < k) (h : shX L j = shX L i) : hasX L i k = true := by
  rw [hasX, List.any_eq_true]
  exact ⟨j, List.mem_range.2 hj, by simpa using h⟩
theorem zeroX_of {L : List Nat} {j k : Nat} (hj : j < k) (h : shX L j = 0) : zeroX L k = true := by
  rw [zeroX, List.any_eq_true]
  exact ⟨j, List.mem_range.2 hj, by simpa using h⟩
def plc (L : List Nat) (n : Nat) : Int := if zeroX L n then 1 else if dupX L n then 7 else 0
theorem shX_lt {L : List Nat} (h : ∀ c ∈ L, c < 256) (i : Nat) : shX L i < 256 := getD_lt h _
theorem shY_lt {L : List Nat} (h : ∀ c ∈ L, c < 256) (i k : Nat) : shY L i k < 256 := getD_lt h _
theorem share_size (l : List Nat) (hl : l.length = 33) : (Tryd.prog.info? 31).map (·.size) = some (vb l).size := by rw [vb_size, hl]; kernel_rfl
theorem z33_vb (l : List Nat) (hl : l.length = 33) : z33.size = (vb l).size := by rw [z33_size, vb_size, hl]
set_option maxRecDepth 100000 in
set_option maxHeartbeats 2000000 in
theorem places_c (n cap : Nat) (ad : Addr) (L : List Nat) (w : World) (hn : 0 < n) (hn2 : n ≤ 1000) (hcap : n ≤ cap) (hcap2 : cap ≤ 9223372036854775807) (hL : L.length = n * 33) (hl : ∀ c ∈ L, c < 256) (hb : ad.block < w.heap.size) (ha : AtA w ad (byt L)) :
    Calls Tryd.prog 39 #[.slice (some ad) n cap] w fun e w' => e = .returned (.int .i64 (plc L n)) ∧ Below w.heap.size w w' := by
  have HA := Lib.hid ha
  have HL := Lib.hid hl
  have zs := zero_share
  clear ha hl
  go_enter Tryd.func39, Tryd.ntmps39
  go_wp2_with fail
  go_step3
  go_wp2_with fail
  go_step3
  go_wp2_with fail
  go_wp2_with fail
  go_loopw [3, 10] (fun e i wr => ∃ k : Nat, k ≤ n ∧ i = .int .i64 k ∧ e = .int .i64 (if dupX L k then 7 else 0) ∧ zeroX L k = false ∧ Below w.heap.size w wr) (fun _ i _ => n - (intOf i).toNat)
  case atStart => exact ⟨0, by omega, rfl, rfl, rfl, Below.refl _ _⟩
  case round =>
    rename World => wr
    obtain ⟨k, hk, rfl, rfl, hz, hbel⟩ := hrel
    have HZ := Lib.hid hz
    have HB := Lib.hid hbel
    clear hz hbel
    by_cases hlt : k < n
    · have hAt := HA.out.below HB.out hb
      have HRow := Lib.hid (hAt.share k)
      have hrl : (shR L k).length = 33 := shR_len hL hlt
      have HSB := Lib.hid (share_bytes (shR L k) hrl)
      have HSS := Lib.hid (share_size (shR L k) hrl)
      have HZS := Lib.hid (z33_vb (shR L k) hrl)
      have HRL := Lib.hid hrl
      clear hAt hrl
      generalize hE : (if dupX L k = true then (7 : Int) else 0) = E
      have HE := Lib.hid hE
      clear hE
      go_upto_region 5 with (first
        | (refine wpList_load_at rfl 31 (.tmp 13) rfl (ad.add (k * 33)) rfl (shR L k) _ HRow.out Tryd.underlying31 rfl HSB.out ?_)
        | (refine wpList_store_rowTo rfl 31 (.tmp 5) (.tmp 14) rfl rfl wr.heap.size (vb (shR L k)) rfl rfl 31 z33 (by exact heap_alloc_new _ _) HSS.out HZS.out (vb_oneF _) ?_))
      obtain ⟨Z, hZ⟩ : ∃ Z, Z = (wr.alloc (.cells z33 31)).setRow wr.heap.size (vb (shR L k)) := ⟨_, rfl⟩
      have hbk : Blk Z wr.heap.size 31 (vb (shR L k)) := by rw [hZ]; exact Blk.row (old := z33) (heap_alloc_new wr _)
      have hbz : Below wr.heap.size wr Z := by rw [hZ]; exact Below.setRow ((Below.refl _ _).alloc (Nat.le_refl _) _) (Nat.le_refl _) _
      rw [← hZ]
      have HBK := Lib.hid hbk
      have HBZ := Lib.hid (HB.out.trans (hbz.mono HB.out.size))
      have hx0 : (shR L k).getD 0 0 = shX L k := shR_at L k 0 (by omega)
      have c0 : Z.cell? ⟨wr.heap.size, 0, none⟩ = some (.int .u8 (shX L k : Nat)) := by rw [← hx0]; exact (hbk.cell 0).trans (vb_atF _ 0 (by rw [HRL.out]; omega))
      have hxl := shX_lt HL.out k
      have HZE := Lib.hid (zeroX_succ L k)
      have HDU := Lib.hid (dupX_succ L k)
      have HHS := Lib.hid (fun j => hasX_succ L k j)
      have HZO := Lib.hid (fun (h : shX L k = 0) => zeroX_of (L := L) (k := n) hlt h)
      clear hbk hbz hx0 hZ
      generalize hxk : shX L k = xk at *
      have HXK := Lib.hid hxk
      clear hxk
      by_cases hx0 : xk = 0
      · have hpl : plc L n = 1 := by unfold plc; rw [HZO.out hx0]; rfl
        have HPL := Lib.hid hpl
        have tx : ((xk : Int) == 0) = true := by rw [hx0]; rfl
        clear hpl hx0
        go_wp2_with fail
        rw [Exit.noGoto_ret]
        go_ret
        exact ⟨by rw [HPL.out]; rfl, HBZ.out⟩
      · have tx : ((xk : Int) == 0) = false := beq_eq_false_iff_ne.2 (by omega)
        have hz1 : zeroX L (k + 1) = false := by
          rw [HZE.out, HZ.out, Bool.false_or]
          simpa using hx0
        have HZ1 := Lib.hid hz1
        clear hx0 hz1
        go_wp2_with fail
        go_loopw [3, 22] (fun ee j wr2 => ∃ m : Nat, m ≤ k ∧ j = .int .i64 m ∧ ee = .int .i64 E ∧ hasX L k m = false ∧ Below Z.heap.size Z wr2) (fun _ j _ => k - (intOf j).toNat)
        case atStart => exact ⟨0, by omega, rfl, rfl, rfl, Below.refl _ _⟩
        case round =>
          rename World => wr2
          obtain ⟨m, hm, rfl, rfl, hhas, hb2⟩ := hrel
          have HHM := Lib.hid hhas
          have HB2 := Lib.hid hb2
          clear hhas hb2
          by_cases hmk : m < k
          · have hAt := HA.out.below (HBZ.out.trans (HB2.out.mono HBZ.out.size)) hb
            have HRow2 := Lib.hid (hAt.share m)
            have hrl : (shR L m).length = 33 := shR_len hL (by omega)
            have HSB2 := Lib.hid (share_bytes (shR L m) hrl)
            have HSS2 := Lib.hid (share_size (shR L m) hrl)
            have HZS2 := Lib.hid (z33_vb (shR L m) hrl)
            have HRL2 := Lib.hid hrl
            clear hAt hrl
            go_upto_region 10 with (first
              | (refine wpList_load_at rfl 31 (.tmp 24) rfl (ad.add (m * 33)) rfl (shR L m) _ HRow2.out Tryd.underlying31 rfl HSB2.out ?_)
              | (refine wpList_store_rowTo rfl 31 (.tmp 7) (.tmp 25) rfl rfl wr2.heap.size (vb (shR L m)) rfl rfl 31 z33 (by exact heap_alloc_new _ _) HSS2.out HZS2.out (vb_oneF _) ?_))
            obtain ⟨V, hV⟩ : ∃ V, V = (wr2.alloc (.cells z33 31)).setRow wr2.heap.size (vb (shR L m)) := ⟨_, rfl⟩
            have hbk : Blk V wr2.heap.size 31 (vb (shR L m)) := by rw [hV]; exact Blk.row (old := z33) (heap_alloc_new wr2 _)
            have hbv : Below wr2.heap.size wr2 V := by rw [hV]; exact Below.setRow ((Below.refl _ _).alloc (Nat.le_refl _) _) (Nat.le_refl _) _
            rw [← hV]
            have hbv2 : Below Z.heap.size Z V := HB2.out.trans (hbv.mono HB2.out.size)
            have HBV := Lib.hid hbv2
            have hx0 : (shR L m).getD 0 0 = shX L m := shR_at L m 0 (by omega)
            have d0 : V.cell? ⟨wr2.heap.size, 0, none⟩ = some (.int .u8 (shX L m : Nat)) := by rw [← hx0]; exact (hbk.cell 0).trans (vb_atF _ 0 (by rw [HRL2.out]; omega))
            have d1 : V.cell? ⟨wr.heap.size, 0, none⟩ = some (.int .u8 (xk : Nat)) := (hbv2.cell (by exact cellLt c0)).trans c0
            have hml := shX_lt HL.out m
            have HHN := Lib.hid (HHS.out m)
            have HOF := Lib.hid (fun (h : shX L m = xk) => hasX_of (L := L) (i := k) hmk (by rw [h, HXK.out]))
            clear hbk hbv hbv2 hx0 hV
            generalize shX L m = xm at *
            by_cases he : xm = xk
            · have te : ((xm : Int) == (xk : Int)) = true := by rw [he]; simp
              have hd1 : dupX L (k + 1) = true := by rw [HDU.out, HOF.out he, Bool.or_true]
              have HD1 := Lib.hid hd1
              clear he hd1
              go_wp2_with fail
              go_roundw
              case rel =>
                go_light
                exact ⟨k + 1, by omega, by go_num, by rw [HD1.out]; rfl, HZ1.out, HBZ.out.trans (HBV.out.mono HBZ.out.size)⟩
              case measure => simp [intOf]; omega
            · have te : ((xm : Int) == (xk : Int)) = false := beq_eq_false_iff_ne.2 (by omega)
              have hh1 : hasX L k (m + 1) = false := by rw [HHN.out, HHM.out, Bool.false_or]; simpa using he
              have HH1 := Lib.hid hh1
              clear he hh1
              go_wp2_with fail
              go_roundw
              case rel =>
                go_light
                exact ⟨m + 1, by omega, by go_num, rfl, HH1.out, HBV.out⟩
              case measure => simp [intOf]; omega
          · have hmk2 : m = k := by omega
            have hd1 : dupX L (k + 1) = dupX L k := by
              have := HHM.out
              rw [hmk2] at this
              rw [HDU.out, this, Bool.or_false]
            have HD1 := Lib.hid hd1
            clear hd1 hmk2
            go_wp2_with fail
            go_roundw
            case rel =>
              go_light
              exact ⟨k + 1, by omega, by go_num, by rw [HD1.out, HE.out], HZ1.out, HBZ.out.trans (HB2.out.mono HBZ.out.size)⟩
            case measure => simp [intOf]; omega
    · have hkn : k = n := by omega
      have hz := HZ.out
      rw [hkn] at hz
      have hpl : plc L n = (if dupX L k = true then (7 : Int) else 0) := by unfold plc; rw [hz, hkn]; rfl
      have HPL := Lib.hid hpl
      clear hpl hz hkn
      generalize (if dupX L k = true then (7 : Int) else 0) = E at *
      go_wp2_with fail
      rw [Exit.noGoto_ret]
      go_ret
      exact ⟨by rw [HPL.out]; rfl, HB.out⟩
end Go.Proofs.YtdbfikcpaionbaaDoor
/- Contract: a share's weight. -/
namespace Go.Proofs.YtdbfikcpaionbaaDoor
open Go.RowKit
set_option linter.unusedVariables false
theorem quiet_q {P : Program} {f : FuncId} {args : Array Value} {w : World} {n : Nat} {v : Value}
    (h : Calls P f args (w.drewN n) (QuietlyF v (w.drewN n))) : Calls P f args (w.drewN n) fun e w'' => e = .returned v ∧ ∃ m, w'' = w.drewN m :=
  h.mono fun _ _ ⟨he, m, hm⟩ => ⟨he, n + m, by rw [hm, World.drewN_drewN]⟩
/-- the product of the first k others' places through the differences -/
def wtl (L : List Nat) (i : Nat) : Nat → Nat
  | 0 => 1
  | k + 1 => if k = i then wtl L i k else gm (wtl L i k) (gm (shX L k) (finv (shX L k ^^^ shX L i)))
theorem wtl_lt (L : List Nat) (i k : Nat) : wtl L i k < 256 := by
  induction k with
  | zero => simp [wtl]
  | succ k ih =>
    unfold wtl
    split
    · exact ih
    · exact gm_lt _ _
set_option maxRecDepth 100000 in
set_option maxHeartbeats 2000000 in
theorem weight_c (B n cap i : Nat) (ad : Addr) (L : List Nat) (w : World) (ht : TabAt w B ftab) (hi : i < n) (hn2 : n ≤ 1000) (hcap : n ≤ cap) (hcap2 : cap ≤ 9223372036854775807) (hL : L.length = n * 33) (hl : ∀ c ∈ L, c < 256) (hb : ad.block < w.heap.size) (ha : AtA w ad (byt L)) :
    Calls Tryd.prog 41 #[.pointer (some ⟨B, 0, none⟩), .slice (some ad) n cap, .int .i64 i] w fun e w' => e = .returned (.int .u8 (wtl L i n : Nat)) ∧ Below w.heap.size w w' := by
  have HA := Lib.hid ha
  have HL := Lib.hid hl
  have HT := Lib.hid ht
  have zs := zero_share
  clear ha hl ht
  go_enter Tryd.func41, Tryd.ntmps41
  go_wp2_with fail
  go_loopw [7, 14] (fun v k wr => ∃ j : Nat, j ≤ n ∧ k = .int .i64 j ∧ v = .int .u8 (wtl L i j : Nat) ∧ Below w.heap.size w wr) (fun _ k _ => n - (intOf k).toNat)
  case atStart => exact ⟨0, by omega, rfl, rfl, Below.refl _ _⟩
  case round =>
    rename World => wr
    obtain ⟨k, hk, rfl, rfl, hbel⟩ := hrel
    have HB := Lib.hid hbel
    clear hbel
    have hwl := wtl_lt L i k
    by_cases hlt : k < n
    · have hAt := HA.out.below HB.out hb
      have HRow := Lib.hid (hAt.share k)
      have HAt := Lib.hid hAt
      have hrl : (shR L k).length = 33 := shR_len hL hlt
      have HSB := Lib.hid (share_bytes (shR L k) hrl)
      have HSS := Lib.hid (share_size (shR L k) hrl)
      have HZS := Lib.hid (z33_vb (shR L k) hrl)
      have HRL := Lib.hid hrl
      have HWS := Lib.hid (show wtl L i (k + 1) = if k = i then wtl L i k else gm (wtl L i k) (gm (shX L k) (finv (shX L k ^^^ shX L i))) from rfl)
      clear hAt hrl
      generalize wtl L i k = v at *
      go_upto_region 5 with (first
        | (refine wpList_load_at rfl 31 (.tmp 17) rfl (ad.add (k * 33)) rfl (shR L k) _ HRow.out Tryd.underlying31 rfl HSB.out ?_)
        | (refine wpList_store_rowTo rfl 31 (.tmp 9) (.tmp 18) rfl rfl wr.heap.size (vb (shR L k)) rfl rfl 31 z33 (by exact heap_alloc_new _ _) HSS.out HZS.out (vb_oneF _) ?_))
      obtain ⟨Z, hZ⟩ : ∃ Z, Z = (wr.alloc (.cells z33 31)).setRow wr.heap.size (vb (shR L k)) := ⟨_, rfl⟩
      have hbk : Blk Z wr.heap.size 31 (vb (shR L k)) := by rw [hZ]; exact Blk.row (old := z33) (heap_alloc_new wr _)
      have hbz : Below wr.heap.size wr Z := by rw [hZ]; exact Below.setRow ((Below.refl _ _).alloc (Nat.le_refl _) _) (Nat.le_refl _) _
      rw [← hZ]
      have HBZ := Lib.hid (HB.out.trans (hbz.mono HB.out.size))
      by_cases hki : k = i
      · have ti : ((k : Int) == (i : Int)) = true := by rw [hki]; simp
        have hws : wtl L i (k + 1) = v := by rw [HWS.out, if_pos hki]
        have HW2 := Lib.hid hws
        clear hki hws hbk hbz hZ
        go_wp2_with fail
        go_roundw
        case rel =>
          go_light
          exact ⟨k + 1, by omega, by go_num, by rw [HW2.out], HBZ.out⟩
        case measure => simp [intOf]; omega
      · have ti : ((k : Int) == (i : Int)) = false := beq_eq_false_iff_ne.2 (by omega)
        have hws : wtl L i (k + 1) = gm v (gm (shX L k) (finv (shX L k ^^^ shX L i))) := by rw [HWS.out, if_neg hki]
        have HW2 := Lib.hid hws
        have hx0 : (shR L k).getD 0 0 = shX L k := shR_at L k 0 (by omega)
        have d0 : Z.cell? ⟨wr.heap.size, 0, none⟩ = some (.int .u8 (shX L k : Nat)) := by rw [← hx0]; exact (hbk.cell 0).trans (vb_atF _ 0 (by rw [HRL.out]; omega))
        have d1 : Z.cell? (ad.add (i * 33)) = some (.int .u8 (shX L i : Nat)) := (hbz.cell (by rw [add_block]; exact Nat.lt_of_lt_of_le hb HB.out.size)).trans (HAt.out.x hL hi)
        have HTZ := Lib.hid (HT.out.below HBZ.out (block_lt_tab HT.out))
        have hxk := shX_lt HL.out k
        have hxi := shX_lt HL.out i
        have hzx : bits BinOp.xor .u8 (shX L k : Nat) (shX L i : Nat) = ((shX L k ^^^ shX L i : Nat) : Int) := u8_xor_nat _ _ hxk hxi
        have hxx := xor_lt256 hxk hxi
        have hii : (i : Int) < (n : Int) := by omega
        clear hki hws hbk hbz hZ hx0
        generalize shX L k = xk at *
        generalize shX L i = xi at *
        generalize xk ^^^ xi = xx at *
        have HXX := Lib.hid (And.intro hxk hxx)
        go_wp2_with fail
        go_quiet (first
          | (go_at_call 53; exact quiet_q (fdiv_c B xk xx _ (HTZ.out.drewN _) hxk hxx)))
        have hqv : gm xk (finv xx) < 256 := gm_lt _ _
        go_wp2_with (go_at_call 42; ((with_reducible refine (fmul_c B v (gm xk (finv xx)) _ (HTZ.out.drewN _) hwl hqv).mono ?_); rintro e w4 ⟨rfl, n4, rfl⟩))
        go_roundw
        case rel =>
          go_light
          exact ⟨k + 1, by omega, by go_num, by rw [HW2.out], belowDrewN _ HBZ.out⟩
        case measure => simp [intOf]; omega
    · have hkn : k = n := by omega
      subst hkn
      go_wp2_with fail
      go_ret
      exact ⟨rfl, HB.out⟩
end Go.Proofs.YtdbfikcpaionbaaDoor
/- An element of a key that is a value. -/
namespace Go.Proofs.YtdbfikcpaionbaaDoor
open Go.RowKit
set_option linter.unusedVariables false
theorem u8_info : ∃ i, Tryd.prog.info? 5 = some i ∧ i.size = 1 := by
  obtain ⟨i0, hi0, hz0, hz1, hz2⟩ := info_parts byteInfoF
  exact ⟨i0, hi0, hz1⟩
theorem run_index_key (l : List Nat) (m : Nat) (hl : l.length = 32) (hm : m < 32) (w : World) : (Instr.index 23 (.agg (vb l)) (.int .i64 (m : Int))).run Tryd.prog w = .ok (.int .u8 (l.getD m 0 : Nat)) w := by
  obtain ⟨i, hi, hs⟩ := u8_info
  have hu := Tryd.underlying23
  have hu8 := Tryd.underlying5
  have hv := vb_atF l m (by omega)
  have hagg : (isAgg 5).run Tryd.prog w = .ok false w := by
    unfold isAgg
    rw [Sem.run_bind, run_underlying hu8 w]
    rfl
  simp [Instr.index, asIntOf, run_underlying hu, sizeOf, typeInfo, hi, hs, part, Sem.run_bind, hagg, hv, hm]
end Go.Proofs.YtdbfikcpaionbaaDoor
/- Contract: Combine. -/
namespace Go.Proofs.YtdbfikcpaionbaaDoor
open Go.RowKit
set_option linter.unusedVariables false
/-- what the first j shares come to, at place k -/
def cmb (L : List Nat) (n : Nat) : Nat → Nat → Nat
  | 0, _ => 0
  | j + 1, k => cmb L n j k ^^^ gm (wtl L j n) (shY L j k)
theorem cmb_lt (L : List Nat) (n j k : Nat) : cmb L n j k < 256 := by
  induction j with
  | zero => simp [cmb]
  | succ j ih => exact xor_lt256 ih (gm_lt _ _)
/-- with the share j put in for the first m places -/
def cmbTo (L : List Nat) (n j m : Nat) : List Nat := (List.range 32).map fun k => if k < m then cmb L n (j + 1) k else cmb L n j k
theorem cmbTo_len (L : List Nat) (n j m : Nat) : (cmbTo L n j m).length = 32 := by simp [cmbTo]
theorem cmbTo_at (L : List Nat) (n j m k : Nat) (h : k < 32) : (cmbTo L n j m).getD k 0 = if k < m then cmb L n (j + 1) k else cmb L n j k := by
  simp [cmbTo, List.getD_eq_getElem?_getD, h]
theorem cmbTo_set (L : List Nat) (n j m : Nat) : (cmbTo L n j m).set m (cmb L n (j + 1) m) = cmbTo L n j (m + 1) := by
  apply List.ext_getElem
  · simp [cmbTo]
  · intro i h1 h2
    simp only [cmbTo, List.getElem_set, List.getElem_map, List.getElem_range]
    by_cases h : m = i
    · subst h; simp
    · rw [if_neg h]
      by_cases h3 : i < m
      · rw [if_pos h3, if_pos (by omega)]
      · rw [if_neg h3, if_neg (by omega)]
theorem cmbTo_all (L : List Nat) (n j : Nat) : cmbTo L n j 32 = cmbTo L n (j + 1) 0 := by
  unfold cmbTo
  apply List.map_congr_left
  intro k hk
  rw [if_pos (List.mem_range.1 hk), if_neg (by omega)]
theorem cmbTo_zero (L : List Nat) (n : Nat) : cmbTo L n 0 0 = List.replicate 32 0 := by
  rw [List.eq_replicate_iff]; simp [cmbTo, cmb]
theorem cmbTo_lt (L : List Nat) (n j m : Nat) : ∀ c ∈ cmbTo L n j m, c < 256 := by
  intro c hc
  obtain ⟨i, _, rfl⟩ := List.mem_map.1 hc
  split
  · exact cmb_lt _ _ _ _
  · exact cmb_lt _ _ _ _
/-- what shares are put together to, and the error -/
def comR (L : List Nat) (n : Nat) : List Nat := if n = 0 then List.replicate 32 0 else if plc L n = 0 then cmbTo L n n 0 else List.replicate 32 0
def comE (L : List Nat) (n : Nat) : Int := if n = 0 then 6 else plc L n
theorem comR_len (L : List Nat) (n : Nat) : (comR L n).length = 32 := by
  unfold comR
  split
  · simp
  · split
    · exact cmbTo_len _ _ _ _
    · simp
theorem key_z32 (l : List Nat) (hl : l.length = 32) : z32.size = (vb l).size := by rw [vb_size, hl]; kernel_rfl
theorem z32_vb : z32 = vb (List.replicate 32 0) := rfl
theorem results_row_tmp {P : Program} {fn : Func} {p u : Tmp} {ty : TypeId} (h : fn.results = #[.cell p ty, .tmp u]) (tmps : Array Value) (w : World) (g : Nat) (t : TypeId) (cs : Array Value) (fr : Nat × Nat) (d : TypeDesc)
    (hp : tmps.getD p undef = .pointer (some ⟨g, 0, none⟩)) (hg : w.heap[g]? = some (.cells cs t fr))
    (hu : P.underlying ty = some d) (hd : (match d with | .struct _ | .array _ _ => true | _ => false) = true) (hi : (P.info? ty).map (·.size) = some cs.size) :
    (results fn tmps).run P w = .ok (.tuple #[.agg cs, tmps.getD u undef]) w := by
  rw [results_cell_tmp h, hp]
  simp [asAddr, run_loadVar_row w g t ty cs fr d hg hu hd hi, Result.andThen]
theorem z32_info : (Tryd.prog.info? 23).map (·.size) = some z32.size := by kernel_rfl
theorem z32_size : z32.size = 32 := by kernel_rfl
theorem z32_ne : ¬ z32 = #[] := fun h => by have h2 := z32_size; rw [h] at h2; simp at h2
set_option maxRecDepth 100000 in
set_option maxHeartbeats 2000000 in
theorem combine_none (A : Option Addr) (cap : Nat) (w : World) :
    Calls Tryd.prog 34 #[.slice A 0 cap] w fun e w' => e = .returned (.tuple #[.agg z32, .int .i64 6]) ∧ Below w.heap.size w w' := by
  have zs := zero_key
  have zn := z32_size
  have ze := z32_ne
  go_enter Tryd.func34, Tryd.ntmps34
  go_wp2_with (first
    | (refine wpList_store_rowTo rfl 23 (.tmp 2) (.tmp 15) rfl rfl w.heap.size z32 rfl rfl 23 z32 (by exact heap_alloc_new _ _) z32_info rfl (by kernel_rfl) ?_))
  (try simp only [Exit.inBlock, Exit.then])
  refine bodyPost_ret (results_row_tmp rfl _ _ w.heap.size 23 z32 (0, 0) _ rfl (Blk.row (old := z32) (heap_alloc_new w _)) Tryd.underlying23 rfl z32_info) rfl ?_
  exact ⟨rfl, Below.setRow ((Below.refl _ _).alloc (Nat.le_refl _) _) (Nat.le_refl _) _⟩
set_option maxRecDepth 100000 in
set_option maxHeartbeats 2000000 in
theorem combine_bad (n cap : Nat) (ad : Addr) (L : List Nat) (w : World) (hn : 0 < n) (hn2 : n ≤ 1000) (hcap : n ≤ cap) (hcap2 : cap ≤ 9223372036854775807) (hL : L.length = n * 33) (hl : ∀ c ∈ L, c < 256) (hb : ad.block < w.heap.size) (ha : AtA w ad (byt L)) (hp : plc L n ≠ 0) :
    Calls Tryd.prog 34 #[.slice (some ad) n cap] w fun e w' => e = .returned (.tuple #[.agg z32, .int .i64 (plc L n)]) ∧ Below w.heap.size w w' := by
  have zs := zero_key
  have zn := z32_size
  have ze := z32_ne
  have HPC := Lib.hid (fun W (hb : Below w.heap.size w W) => places_c n cap ad L W hn hn2 hcap hcap2 hL hl (Nat.lt_of_lt_of_le ‹ad.block < w.heap.size› hb.size) (ha.below hb ‹ad.block < w.heap.size›))
  generalize plc L n = E at *
  have tE : (E != 0) = true := bne_iff_ne.2 hp
  clear hp ha hl
  go_enter Tryd.func34, Tryd.ntmps34
  go_wp2_with (first
    | (go_at_call 39; ((with_reducible refine (HPC.out _ (by exact (Below.refl _ _).alloc (Nat.le_refl _) _)).mono ?_); rintro e w2 ⟨rfl, hb2⟩; have HB2 := Lib.hid hb2; have HBK := Lib.hid ((Blk.new w 23 z32).below hb2 (by simp)); clear hb2))
    | (refine wpList_store_rowTo rfl 23 (.tmp 2) (.tmp 20) rfl rfl w.heap.size z32 rfl rfl 23 z32 HBK.out z32_info rfl (by kernel_rfl) ?_))
  (try simp only [Exit.inBlock, Exit.then])
  refine bodyPost_ret (results_row_tmp rfl _ _ w.heap.size 23 z32 (0, 0) _ rfl (Blk.row (old := z32) HBK.out) Tryd.underlying23 rfl z32_info) rfl ?_
  exact ⟨rfl, Below.setRow (((Below.refl _ _).alloc (Nat.le_refl _) _).trans (HB2.out.mono (by simp))) (Nat.le_refl _) _⟩
/-- what Combine keeps in memory -/
structure CmW (w : World) (T G : Nat) (l : List Nat) (wr : World) : Prop where
  bt : TabAt wr T ftab
  bo : Blk wr G 23 (vb l)
  br : Blk wr w.heap.size 23 z32
  bel : Below w.heap.size w wr
  hG : w.heap.size < G
  hTG : T < G
theorem CmW.next {w wr w' : World} {T G : Nat} {l : List Nat} (h : CmW w T G l wr) (hb : Below wr.heap.size wr w') : CmW w T G l w' :=
  ⟨h.bt.below hb (block_lt_tab h.bt), h.bo.below hb h.bo.lt, h.br.below hb h.br.lt, h.bel.trans (hb.mono h.bel.size), h.hG, h.hTG⟩
theorem CmW.drewN {w wr : World} {T G : Nat} {l : List Nat} (h : CmW w T G l wr) (n : Nat) : CmW w T G l (wr.drewN n) := ⟨h.bt, h.bo, h.br, belowDrewN n h.bel, h.hG, h.hTG⟩
theorem CmW.set_ {w wr : World} {T G : Nat} {l : List Nat} (h : CmW w T G l wr) (i v : Nat) : CmW w T G (l.set i v) (wr.setCell ⟨G, i, none⟩ (.int .u8 (v : Int))) :=
  ⟨(Below.heap_setCell wr _ _ T (by show T ≠ G; have := h.hTG; omega)).trans h.bt, by have := h.bo.set_ i (.int .u8 (v : Int)); rw [vb_setF] at this; exact this, h.br.far (by show w.heap.size ≠ G; have := h.hG; omega) _, h.bel.setCell (by show w.heap.size ≤ G; have := h.hG; omega) _, h.hG, h.hTG⟩
set_option maxRecDepth 100000 in
set_option maxHeartbeats 2000000 in
theorem combine_ok (n cap : Nat) (ad : Addr) (L : List Nat) (w : World) (hn : 0 < n) (hn2 : n ≤ 1000) (hcap : n ≤ cap) (hcap2 : cap ≤ 9223372036854775807) (hL : L.length = n * 33) (hl : ∀ c ∈ L, c < 256) (hb : ad.block < w.heap.size) (ha : AtA w ad (byt L)) (hp : plc L n = 0) :
    Calls Tryd.prog 34 #[.slice (some ad) n cap] w fun e w' => e = .returned (.tuple #[.agg (vb (cmbTo L n n 0)), .int .i64 0]) ∧ Below w.heap.size w w' := by
  have zs := zero_key
  have zs2 := zero_share
  have zn := z32_size
  have ze := z32_ne
  have hpc := fun W (hb : Below w.heap.size w W) => places_c n cap ad L W hn hn2 hcap hcap2 hL hl (Nat.lt_of_lt_of_le ‹ad.block < w.heap.size› hb.size) (ha.below hb ‹ad.block < w.heap.size›)
  rw [hp] at hpc
  have HPC := Lib.hid hpc
  have HWC := Lib.hid (fun B i W (hi : i < n) (ht : TabAt W B ftab) (hb : Below w.heap.size w W) => weight_c B n cap i ad L W ht hi hn2 hcap hcap2 hL hl (Nat.lt_of_lt_of_le ‹ad.block < w.heap.size› hb.size) (ha.below hb ‹ad.block < w.heap.size›))
  have HA := Lib.hid ha
  have HL := Lib.hid hl
  clear hpc ha hl hp
  go_enter Tryd.func34, Tryd.ntmps34
  go_wp2_with (first
    | (go_at_call 39; ((with_reducible refine (HPC.out _ (by exact (Below.refl _ _).alloc (Nat.le_refl _) _)).mono ?_); rintro e w2 ⟨rfl, hb2⟩; have HB2 := Lib.hid (((Below.refl w.heap.size w).alloc (Nat.le_refl _) (.cells z32 23)).trans (hb2.mono (by simp))); have HBK := Lib.hid ((Blk.new w 23 z32).below hb2 (by simp)); clear hb2))
    | (go_at_call 40; ((with_reducible refine (build_c _).mono ?_); rintro e w3 ⟨rfl, hz3, htab, hb3⟩; have HT := Lib.hid htab; have HB3 := Lib.hid hb3; have HZ3 := Lib.hid hz3; clear htab hb3 hz3)))
  obtain ⟨G, hG⟩ : ∃ G, G = w3.heap.size := ⟨_, rfl⟩
  obtain ⟨T, hT⟩ : ∃ T, T = w2.heap.size := ⟨_, rfl⟩
  have hcm : CmW w T G (cmbTo L n 0 0) (w3.alloc (.cells z32 23)) := by
    rw [hG, hT, cmbTo_zero]
    have h1 := HBK.out.lt
    have h2 := HZ3.out
    exact ⟨(HT.out.below ((Below.refl _ _).alloc (Nat.le_refl _) _) (by omega)), Blk.new _ _ _, (HBK.out.below HB3.out (by omega)).alloc _, ((HB2.out.trans (HB3.out.mono (by omega))).alloc (by omega) _), by omega, by omega⟩
  have HCM := Lib.hid hcm
  clear hcm
  try rw [← hG, ← hT]
  clear hG hT HT HB3 HZ3 HB2 HBK
  go_loopw [25] (fun i wr => ∃ j : Nat, j ≤ n ∧ i = .int .i64 j ∧ CmW w T G (cmbTo L n j 0) wr) (fun i _ => n - (intOf i).toNat)
  case atStart => exact ⟨0, by omega, rfl, HCM.out⟩
  case round =>
    rename World => wr
    obtain ⟨j, hj, rfl, hcm⟩ := hrel
    have HW := Lib.hid hcm
    clear hcm HCM
    by_cases hlt : j < n
    · have hAt := HA.out.below HW.out.bel hb
      have HRow := Lib.hid (hAt.share j)
      have hrl : (shR L j).length = 33 := shR_len hL hlt
      have HSB := Lib.hid (share_bytes (shR L j) hrl)
      have HSS := Lib.hid (share_size (shR L j) hrl)
      have HZS := Lib.hid (z33_vb (shR L j) hrl)
      have hyl : ((shR L j).drop 1).length = 32 := by rw [List.length_drop, hrl]
      have HYB := Lib.hid (key_bytes ((shR L j).drop 1) hyl)
      have HRL := Lib.hid hrl
      have HYL := Lib.hid hyl
      clear hAt hrl hyl
      go_upto_region 11 with (first
        | (refine wpList_load_at rfl 31 (.tmp 28) rfl (ad.add (j * 33)) rfl (shR L j) _ HRow.out Tryd.underlying31 rfl HSB.out ?_)
        | (refine wpList_store_rowTo rfl 31 (.tmp 8) (.tmp 29) rfl rfl wr.heap.size (vb (shR L j)) rfl rfl 31 z33 (by exact heap_alloc_new _ _) HSS.out HZS.out (vb_oneF _) ?_))
      obtain ⟨Z, hZ⟩ : ∃ Z, Z = (wr.alloc (.cells z33 31)).setRow wr.heap.size (vb (shR L j)) := ⟨_, rfl⟩
      have hbk : Blk Z wr.heap.size 31 (vb (shR L j)) := by rw [hZ]; exact Blk.row (old := z33) (heap_alloc_new wr _)
      have hbz : Below wr.heap.size wr Z := by rw [hZ]; exact Below.setRow ((Below.refl _ _).alloc (Nat.le_refl _) _) (Nat.le_refl _) _
      rw [← hZ]
      have HBK := Lib.hid hbk
      have HCZ := Lib.hid (HW.out.next hbz)
      clear hbk hbz hZ
      obtain ⟨g, hg⟩ : ∃ g, g = wr.heap.size := ⟨_, rfl⟩
      rw [← hg] at HBK
      rw [← hg]
      clear hg
      have hwl := wtl_lt L j n
      have HCS := Lib.hid (fun k => (show cmb L n (j + 1) k = cmb L n j k ^^^ gm (wtl L j n) (shY L j k) from rfl))
      have HWJ := Lib.hid (HWC.out T j)
      generalize wtl L j n = v at *
      go_upto_region 13 with (first
        | (go_at_call 41; ((with_reducible refine (HWJ.out _ hlt HCZ.out.bt HCZ.out.bel).mono ?_); rintro e w4 ⟨rfl, hb4⟩; have HC4 := Lib.hid (HCZ.out.next hb4); have HB4 := Lib.hid (HBK.out.below hb4 HBK.out.lt); have hrg : AtA w4 ⟨g, 1, none⟩ (byt ((shR L j).drop 1)) := (fun q u hu => by rw [Addr.add_mid, HB4.out.cell (1 + q)]; rw [vb, List.getElem?_toArray, ← hu]; simp only [byt, List.map_drop, List.getElem?_drop]); have HRG := Lib.hid hrg; clear hb4 hrg))
        | (refine wpList_load_at rfl 23 (.tmp 34) rfl ⟨g, 1, none⟩ rfl ((shR L j).drop 1) _ HRG.out Tryd.underlying23 rfl HYB.out ?_))
      have hYl : (shR L j).tail.length = 32 := by rw [List.length_tail, HRL.out]
      have hYg : ∀ k, k < 32 → (shR L j).tail.getD k 0 = shY L j k := fun k hk => by
        have h := shR_at L j (1 + k) (by omega)
        rw [← List.drop_one, List.getD_eq_getElem?_getD, List.getElem?_drop, ← List.getD_eq_getElem?_getD, h]
        rfl
      generalize (shR L j).tail = Y at *
      have HYl := Lib.hid hYl
      have HYg := Lib.hid hYg
      have hvz : (vb Y).size = 32 := by rw [vb_size, hYl]
      clear hYl hYg
      go_loopw [36] (fun i wr5 => ∃ m : Nat, m ≤ 32 ∧ i = .int .i64 m ∧ CmW w T G (cmbTo L n j m) wr5) (fun i _ => 32 - (intOf i).toNat)
      case atStart => exact ⟨0, by omega, rfl, HC4.out⟩
      case round =>
        rename World => wr5
        obtain ⟨m, hm, rfl, hcm⟩ := hrel
        have HC := Lib.hid hcm
        clear hcm
        by_cases hm32 : m < 32
        · have hix := fun W => run_index_key Y m HYl.out hm32 W
          have hyg := HYg.out m hm32
          rw [hyg] at hix
          have hyl := shY_lt HL.out j m
          have HCM := Lib.hid (HCS.out m)
          have HST := Lib.hid (cmbTo_set L n j m)
          have hcl := cmb_lt L n j m
          have d4 : wr5.cell? ⟨G, m, none⟩ = some (.int .u8 (cmb L n j m : Nat)) := by
            have h := (HC.out.bo.cell m).trans (vb_atF _ m (by rw [cmbTo_len]; exact hm32))
            rw [cmbTo_at _ _ _ _ _ hm32, if_neg (by omega)] at h
            exact h
          have f4 : wr5.frozen? ⟨G, m, none⟩ = false := HC.out.bo.free m
          have hgl := gm_lt v (shY L j m)
          have hxc : bits BinOp.xor .u8 (cmb L n j m : Nat) (gm v (shY L j m) : Nat) = ((cmb L n j m ^^^ gm v (shY L j m) : Nat) : Int) := u8_xor_nat _ _ hcl hgl
          have hres := xor_lt256 hcl hgl
          clear hyg
          generalize shY L j m = y at *
          generalize cmb L n j m = c at *
          generalize hcr : c ^^^ gm v y = cr2 at *
          have HCR := Lib.hid hcr
          clear hcr
          go_wp2_with fail
          have HTB := Lib.hid HC.out.bt
          have e37 : decide ((m : Int) < 32) = true := decide_eq_true (by omega)
          go_region_with (go_at_call 42; ((refine (fmul_c T v y _ (by first | exact HTB.out | exact HTB.out.drewN 1) hwl hyl).mono ?_); rintro e w6 ⟨rfl, n6, rfl⟩))
          all_goals (go_wp2_with fail)
          all_goals exact ⟨⟨m + 1, by omega, by go_num, (by have h := (HC.out.drewN (1 + n6)).set_ m cr2; rw [← HCM.out, HST.out] at h; rw [← HCM.out]; exact h)⟩, by simp [intOf]; omega⟩
        · have hm2 : m = 32 := by omega
          have hc := HC.out
          rw [hm2, cmbTo_all] at hc
          have HC2 := Lib.hid hc
          clear hc hm2
          go_wp2_with fail
          go_roundw
          case rel =>
            go_light
            exact ⟨j + 1, by omega, by go_num, HC2.out⟩
          case measure => simp [intOf]; omega
    · have hjn : j = n := by omega
      have hc := HW.out
      rw [hjn] at hc
      have HC2 := Lib.hid hc
      have hol := cmbTo_len L n n 0
      have hos : (Tryd.prog.info? 23).map (·.size) = some (vb (cmbTo L n n 0)).size := key_size _ hol
      have HOS := Lib.hid hos
      have HOL := Lib.hid (key_z32 _ hol)
      clear hc hjn hol hos
      go_wp2_with (first
        | (refine wpList_load_row rfl 23 (.tmp 6) rfl G rfl 23 _ _ _ HC2.out.bo Tryd.underlying23 rfl HOS.out ?_)
        | (refine wpList_store_rowTo rfl 23 (.tmp 2) (.tmp 51) rfl rfl w.heap.size (vb (cmbTo L n n 0)) rfl rfl 23 z32 HC2.out.br HOS.out HOL.out (vb_oneF _) ?_))
      (try simp only [Exit.inBlock, Exit.then])
      refine bodyPost_ret (results_row_tmp rfl _ _ w.heap.size 23 (vb (cmbTo L n n 0)) (0, 0) _ rfl (Blk.row (old := z32) HC2.out.br) Tryd.underlying23 rfl HOS.out) rfl ?_
      exact ⟨rfl, Below.setRow HC2.out.bel (Nat.le_refl _) _⟩
theorem combine_c (n cap : Nat) (A : Option Addr) (L : List Nat) (w : World) (hn2 : n ≤ 1000) (hcap : n ≤ cap) (hcap2 : cap ≤ 9223372036854775807) (hl : ∀ c ∈ L, c < 256) (hr : RdS w w.heap.size A n L) :
    Calls Tryd.prog 34 #[.slice A n cap] w fun e w' => e = .returned (.tuple #[.agg (vb (comR L n)), .int .i64 (comE L n)]) ∧ Below w.heap.size w w' := by
  unfold comR comE
  rcases Nat.eq_zero_or_pos n with h0 | h0
  · subst h0
    exact combine_none A cap w
  · obtain ⟨ad, rfl, hb, ha⟩ := hr.open_ h0
    have h0n : ¬ n = 0 := by omega
    simp only [h0n, if_false]
    by_cases hp : plc L n = 0
    · rw [if_pos hp, hp]
      exact combine_ok n cap ad L w h0 hn2 hcap hcap2 hr.1 hl hb ha hp
    · rw [if_neg hp]
      exact combine_bad n cap ad L w h0 hn2 hcap hcap2 hr.1 hl hb ha hp
end Go.Proofs.YtdbfikcpaionbaaDoor
/- Contract: slices.Insert at shares: one share laid into a row of the call's own. -/
namespace Go.Proofs.YtdbfikcpaionbaaDoor
open Go.RowKit
set_option linter.unusedVariables false
set_option linter.unusedSimpArgs false
def insL (L : List Nat) (i : Nat) (s : List Nat) : List Nat := L.take (i * 33) ++ s ++ L.drop (i * 33)
theorem insL_len {L s : List Nat} {n i : Nat} (hL : L.length = n * 33) (hs : s.length = 33) (hi : i ≤ n) : (insL L i s).length = (n + 1) * 33 := by
  simp only [insL, List.length_append, List.length_take, List.length_drop, hL, hs]; omega
theorem insL_lt {L s : List Nat} {i : Nat} (hL : ∀ c ∈ L, c < 256) (hs : ∀ c ∈ s, c < 256) : ∀ c ∈ insL L i s, c < 256 := fun c hc => by
  simp only [insL, List.mem_append] at hc
  rcases hc with (h | h) | h
  · exact hL c (List.mem_of_mem_take h)
  · exact hs c h
  · exact hL c (List.mem_of_mem_drop h)
/-- cells put in from place o on -/
def spl (cur : Array Value) (o : Nat) (vs : List Value) : Array Value := (cur.toList.take o ++ vs ++ cur.toList.drop (o + vs.length)).toArray
theorem spl_size {cur : Array Value} {o : Nat} {vs : List Value} (h : o + vs.length ≤ cur.size) : (spl cur o vs).size = cur.size := by
  simp [spl]; omega
theorem take_app_len {α : Type} (A B : List α) (n : Nat) (h : n = A.length) : (A ++ B).take n = A := by subst h; simp
theorem drop_app_len {α : Type} (A B : List α) (n : Nat) (h : n = A.length) : (A ++ B).drop n = B := by subst h; simp
/-- first what stands behind is shifted, then the new one laid -/
theorem spl_shift (cur : Array Value) (X1 X2 S R : List Value) (o k : Nat) (hc : cur.toList = X1 ++ X2 ++ R) (ho : o = X1.length) (hk : k = S.length) (hR : k ≤ R.length) :
    ∃ R', (spl (spl cur (o + k) X2) o S).toList = X1 ++ S ++ X2 ++ R' := by
  refine ⟨(X1 ++ X2 ++ R).drop (o + k + X2.length), ?_⟩
  have hl : ((X1 ++ X2 ++ R).take (o + k)).length = o + k := by
    rw [List.length_take]; simp only [List.length_append]; omega
  have h1 : (spl cur (o + k) X2).toList = (X1 ++ X2 ++ R).take (o + k) ++ X2 ++ (X1 ++ X2 ++ R).drop (o + k + X2.length) := by simp [spl, hc]
  have h2 : ((X1 ++ X2 ++ R).take (o + k) ++ X2 ++ (X1 ++ X2 ++ R).drop (o + k + X2.length)).take o = X1 := by
    rw [List.append_assoc, List.take_append_of_le_length (by omega), List.take_take, Nat.min_eq_left (by omega), List.append_assoc, take_app_len _ _ _ ho]
  have h3 : ((X1 ++ X2 ++ R).take (o + k) ++ X2 ++ (X1 ++ X2 ++ R).drop (o + k + X2.length)).drop (o + k) = X2 ++ (X1 ++ X2 ++ R).drop (o + k + X2.length) := by
    rw [List.append_assoc, drop_app_len _ _ _ hl.symm]
  show (((spl cur (o + k) X2).toList.take o ++ S ++ (spl cur (o + k) X2).toList.drop (o + S.length)).toArray).toList = _
  rw [← hk, h1, h2, h3]
  simp
/-- first the new one is laid, then what stands behind -/
theorem spl_then (cur : Array Value) (X1 X2 S R : List Value) (o k : Nat) (hc : cur.toList = X1 ++ R) (ho : o = X1.length) (hk : k = S.length) (hR : k + X2.length ≤ R.length) :
    ∃ R', (spl (spl cur o S) (o + k) X2).toList = X1 ++ S ++ X2 ++ R' := by
  refine ⟨R.drop (k + X2.length), ?_⟩
  have h1 : (spl cur o S).toList = X1 ++ S ++ R.drop k := by
    show ((cur.toList.take o ++ S ++ cur.toList.drop (o + S.length)).toArray).toList = _
    rw [hc, take_app_len _ _ _ ho, ← hk, List.drop_append, List.drop_eq_nil_of_le (by omega), List.nil_append, show o + k - X1.length = k by omega]
  have hl : (X1 ++ S).length = o + k := by rw [List.length_append]; omega
  show (((spl cur o S).toList.take (o + k) ++ X2 ++ (spl cur o S).toList.drop (o + k + X2.length)).toArray).toList = _
  rw [h1, take_app_len _ _ _ hl.symm, List.drop_append, List.drop_eq_nil_of_le (by omega), List.nil_append, List.drop_drop, show k + (o + k + X2.length - (X1 ++ S).length) = k + X2.length by omega]
theorem Only.setRow {S : Nat → Prop} {w w' : World} (h : Only S w w') {g : Nat} (hg : g < w.heap.size → S g) (cs : Array Value) : Only S w (w'.setRow g cs) :=
  ⟨h.os, h.tape, h.output, by simp only [World.setRow, Array.size_modify]; exact h.size, fun i hi hn => (setRow_other w' g i cs (fun e => hn (by subst e; exact hg hi))).trans (h.block i hi hn)⟩
section
variable {P : Program}
theorem run_copyK (w : World) (dT sT ty elem : TypeId) (size g o dLen dCap : Nat) (a : Addr) (sLen sCap : Nat) (cur : Array Value) (t : TypeId) (cs : List Value)
    (hu : P.underlying dT = some (.slice elem)) (hs : (P.info? elem).map (·.size) = some size)
    (hg : w.heap[g]? = some (.cells cur t (0, 0))) (hn : cs.length = Nat.min sLen dLen * size)
    (hsrc : ∀ j v, cs[j]? = some v → w.cell? (a.add j) = some v) (hfit : o + cs.length ≤ cur.size) (h1 : ∀ v ∈ cs, v.oneCell' = true) :
    (Builtin.copy_ #[dT, sT] ty #[.slice (some ⟨g, o, none⟩) dLen dCap, .slice (some a) sLen sCap]).run P w =
      .ok (goInt (Nat.min sLen dLen)) (w.setRow g (spl cur o cs)) := by
  have hl := run_loadCells_list (P := P) w a cs hsrc
  have hst := run_storeCells_at P g o t cs 0 cur w hg (by simpa using hfit) h1
  cases hq : P.info? elem with
  | none => simp [hq] at hs
  | some i =>
    have hi : i.size = size := by simpa [hq] using hs
    have hn' : min sLen dLen * size = cs.length := hn.symm
    simp [Builtin.copy_, run_underlying hu, Builtin.lenOf, Builtin.firstCells, sizeOf, typeInfo, hq, hi, hn', hl, hst, spl]
theorem wpList_copyK {ops : Array Oper} {rest : List Oper} {o : Oper} {a : Act} {w : World} {Q : Exit → Act → World → Prop} (hgd : o.guard = none) (d s : Operand) (t t' : TypeId)
    (ho : o.op = .call { callee := .builtin .copy, args := #[d, s], argTypes := #[t, t'] }) (v u : Value) (hd : a.eval d = v) (hs : a.eval s = u) {v' : Value} {w' : World}
    (hr : (Builtin.copy_ #[t, t'] o.type #[v, u]).run P w = .ok v' w') (h : wpList P ops Q rest (a.put o.dst v') w') : wpList P ops Q (o :: rest) a w :=
  wpList_plain hgd fun _ hK => by
    unfold Oper.wp execOp
    simp only [ho, resolve, invoke, builtin, Sem.run_bind, Sem.run_pure, Result.andThen_ok, List.map_toArray, List.map_cons, List.map_nil, hd, hs, hr]
    exact hK _ _ h
end
end Go.Proofs.YtdbfikcpaionbaaDoor
