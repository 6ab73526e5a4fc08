/- Lagrange at 0 over the field of 256 elements: any n shares of a polynomial of at most n coefficients are put together to its value at 0. -/
import Derived.Test.YtldanlglefgobaaPlain2
namespace Go.Proofs.Ytldanlglefgobaa
theorem gm_finv (a : Nat) (ha : a < 256) (h0 : a ≠ 0) : gm a (finv a) = 1 := gm_tinv a ha h0
theorem gm_left_comm (a b c : Nat) (ha : a < 256) (hb : b < 256) (hc : c < 256) : gm a (gm b c) = gm b (gm a c) := by
  rw [← gm_assoc a b c ha hb hc, gm_comm a b ha hb, gm_assoc b a c hb ha hc]
theorem one_gm (a : Nat) (ha : a < 256) : gm 1 a = a := by rw [gm_comm 1 a (by omega) ha, gm_one a ha]
theorem xor_lt8 {a b : Nat} (ha : a < 256) (hb : b < 256) : a ^^^ b < 256 := Nat.xor_lt_two_pow (n := 8) ha hb
theorem xor_ne {a b : Nat} (h : a ≠ b) : a ^^^ b ≠ 0 := fun h0 => h (by
  have : a ^^^ b ^^^ b = 0 ^^^ b := by rw [h0]
  rw [Nat.xor_assoc, Nat.xor_self, Nat.xor_zero, Nat.zero_xor] at this
  exact this)
/-- y through y + x -/
def qt (x y : Nat) : Nat := gm y (finv (y ^^^ x))
theorem qt_lt (x y : Nat) : qt x y < 256 := gm_lt _ _
/-- what a place counts beside others -/
def wt (x : Nat) : List Nat → Nat
  | [] => 1
  | y :: l => gm (qt x y) (wt x l)
theorem wt_lt (x : Nat) : ∀ l, wt x l < 256
  | [] => by simp [wt]
  | y :: l => gm_lt _ _
/-- the sum over all places -/
def sx : List Nat → Nat
  | [] => 0
  | a :: l => a ^^^ sx l
theorem sx_map_gm (c : Nat) (l : List Nat) : sx (l.map (gm c)) = gm c (sx l) := by
  induction l with
  | nil => simp [sx, gm_zero]
  | cons a l ih => simp [sx, ih, gm_right]
theorem sx_map_xor {α : Type} (f g : α → Nat) (l : List α) : sx (l.map fun i => f i ^^^ g i) = sx (l.map f) ^^^ sx (l.map g) := by
  induction l with
  | nil => simp [sx]
  | cons a l ih => simp only [List.map_cons, sx, ih, xor_swap4]
/-- Lagrange: the sum of f at each place times its weight -/
def lag (f : Nat → Nat) (l : List Nat) : Nat := sx ((List.range l.length).map fun i => gm (f (l.getD i 0)) (wt (l.getD i 0) (l.eraseIdx i)))
theorem lag_cons (f : Nat → Nat) (a : Nat) (l : List Nat) : lag f (a :: l) = gm (f a) (wt a l) ^^^ sx ((List.range l.length).map fun i => gm (f (l.getD i 0)) (gm (qt (l.getD i 0) a) (wt (l.getD i 0) (l.eraseIdx i)))) := by
  unfold lag
  rw [List.length_cons, List.range_succ_eq_map, List.map_cons, List.map_map, sx]
  congr 1
def Places (l : List Nat) : Prop := (∀ x ∈ l, x < 256 ∧ x ≠ 0) ∧ l.Nodup
theorem Places.tail {a : Nat} {l : List Nat} (h : Places (a :: l)) : Places l := ⟨fun x hx => h.1 x (List.mem_cons_of_mem _ hx), (List.nodup_cons.1 h.2).2⟩
/-- (p(x) + p(a)) / (x + a), by coefficients -/
def quo (a : Nat) : List Nat → List Nat
  | [] => []
  | _ :: l => zx l ((quo a l).map (gm a))
theorem quo_len (a : Nat) : ∀ l : List Nat, (quo a l).length = l.length - 1
  | [] => rfl
  | c :: l => by rw [quo, zx_len, List.length_map, quo_len a l]; simp
theorem map_gm_lt (a : Nat) (l : List Nat) : ∀ c ∈ l.map (gm a), c < 256 := fun c hc => by
  obtain ⟨b, _, rfl⟩ := List.mem_map.1 hc
  exact gm_lt _ _
theorem quo_lt (a : Nat) : ∀ l : List Nat, (∀ c ∈ l, c < 256) → ∀ c ∈ quo a l, c < 256
  | [], _ => by simp [quo]
  | c :: l, h => zx_lt _ _ (fun c hc => h c (by simp [hc])) (map_gm_lt _ _)
theorem hv_map (a x : Nat) (ha : a < 256) (hx : x < 256) : ∀ l : List Nat, (∀ c ∈ l, c < 256) → hv x (l.map (gm a)) = gm a (hv x l)
  | [], _ => by simp [hv, gm_zero]
  | c :: l, h => by
    have hl : ∀ c ∈ l, c < 256 := fun c hc => h c (by simp [hc])
    rw [List.map_cons, hv, hv, hv_map a x ha hx l hl, gm_right, gm_assoc a _ x ha (hv_lt x l hl) hx]
theorem quo_spec (a x : Nat) (ha : a < 256) (hx : x < 256) : ∀ l : List Nat, (∀ c ∈ l, c < 256) → hv x l ^^^ hv a l = gm (x ^^^ a) (hv x (quo a l))
  | [], _ => by simp [hv, quo, gm_zero]
  | c :: l, h => by
    have hl : ∀ c ∈ l, c < 256 := fun c hc => h c (by simp [hc])
    have ih := quo_spec a x ha hx l hl
    have h1 := hv_lt x l hl
    have h2 := hv_lt a l hl
    have h3 := hv_lt x _ (quo_lt a l hl)
    have e : hv a l = hv x l ^^^ gm (x ^^^ a) (hv x (quo a l)) := by
      rw [← ih, ← Nat.xor_assoc, Nat.xor_self, Nat.zero_xor]
    rw [quo, hv, hv, hv_zx, hv_map a x ha hx _ (quo_lt a l hl)]
    generalize hv x (quo a l) = q at *
    rw [xor_self_mid, e]
    generalize hv x l = s at *
    rw [gm_left (s) (gm (x ^^^ a) q) a, gm_right (x ^^^ a) s (gm a q), gm_left x a s, gm_left x a (gm a q), gm_left x a q, gm_left (gm x q) (gm a q) a,
      gm_comm s x h1 hx, gm_comm s a h1 ha, gm_assoc x q a hx h3 ha, gm_assoc a q a ha h3 ha, gm_comm q a h3 ha, Nat.xor_assoc]
/-- the polynomial that is 0 at each place -/
def vp : List Nat → List Nat
  | [] => [1]
  | y :: l => zx ((vp l).map (gm y)) (0 :: vp l)
theorem vp_len : ∀ l : List Nat, (vp l).length = l.length + 1
  | [] => rfl
  | y :: l => by rw [vp, zx_len, List.length_map, List.length_cons, vp_len l, List.length_cons]; omega
theorem vp_lt : ∀ l : List Nat, ∀ c ∈ vp l, c < 256
  | [] => by simp [vp]
  | y :: l => zx_lt _ _ (map_gm_lt _ _) (fun c hc => by
    rcases List.mem_cons.1 hc with rfl | hc
    · omega
    · exact vp_lt l c hc)
/-- the product of the places' sums with x -/
def px (x : Nat) : List Nat → Nat
  | [] => 1
  | y :: l => gm (y ^^^ x) (px x l)
theorem px_lt (x : Nat) : ∀ l : List Nat, px x l < 256
  | [] => by simp [px]
  | y :: l => gm_lt _ _
theorem hv_vp (x : Nat) (hx : x < 256) : ∀ l : List Nat, (∀ y ∈ l, y < 256) → hv x (vp l) = px x l
  | [], _ => by rw [vp, px, hv, hv, zero_gm]; rfl
  | y :: l, h => by
    have hl : ∀ y ∈ l, y < 256 := fun c hc => h c (by simp [hc])
    have hy := h y (by simp)
    rw [vp, px, hv_zx, hv_map y x hy hx _ (vp_lt l), hv_cons0 x hx _ (vp_lt l), hv_vp x hx l hl, gm_left]
theorem px_zero_at (x : Nat) : ∀ l : List Nat, x ∈ l → px x l = 0
  | [], h => by simp at h
  | y :: l, h => by
    rw [px]
    rcases List.mem_cons.1 h with rfl | h
    · rw [Nat.xor_self, zero_gm]
    · rw [px_zero_at x l h, gm_zero]
theorem gm_ne {a b : Nat} (ha : a < 256) (hb : b < 256) (h1 : a ≠ 0) (h2 : b ≠ 0) : gm a b ≠ 0 := fun h => by
  have : gm (finv a) (gm a b) = b := by
    rw [← gm_assoc _ _ _ (finv_lt a) ha hb, gm_comm _ a (finv_lt a) ha, gm_finv a ha h1, one_gm b hb]
  rw [h, gm_zero] at this
  exact h2 this.symm
theorem px_ne (x : Nat) (hx : x < 256) : ∀ l : List Nat, (∀ y ∈ l, y < 256) → x ∉ l → px x l ≠ 0
  | [], _, _ => by simp [px]
  | y :: l, h, hn => by
    rw [px]
    have hy := h y (by simp)
    exact gm_ne (xor_lt8 hy hx) (px_lt x l) (xor_ne (fun e => hn (by simp [e]))) (px_ne x hx l (fun c hc => h c (by simp [hc])) (fun hm => hn (by simp [hm])))
/-- a place's weight: the product of the others through the product of the sums -/
theorem wt_px (x : Nat) (hx : x < 256) : ∀ l : List Nat, (∀ y ∈ l, y < 256) → x ∉ l → gm (wt x l) (px x l) = px 0 l
  | [], _, _ => by rw [wt, px, px, gm_one 1 (by omega)]
  | y :: l, h, hn => by
    have hy := h y (by simp)
    have hl : ∀ y ∈ l, y < 256 := fun c hc => h c (by simp [hc])
    have ih := wt_px x hx l hl (fun hm => hn (by simp [hm]))
    have hd := xor_lt8 hy hx
    rw [wt, px, px, Nat.xor_zero, gm_assoc _ _ _ (qt_lt x y) (wt_lt x l) (gm_lt _ _), gm_left_comm _ _ _ (wt_lt x l) hd (px_lt x l), ih, ← gm_assoc _ _ _ (qt_lt x y) hd (px_lt 0 l)]
    congr 1
    unfold qt
    rw [gm_assoc _ _ _ hy (finv_lt _) hd, gm_comm (finv _) _ (finv_lt _) hd, gm_finv _ hd (xor_ne (fun e => hn (by simp [e]))), gm_one y hy]
theorem gm_cancel_right {a b c : Nat} (ha : a < 256) (hb : b < 256) (hc : c < 256) (h0 : c ≠ 0) (h : gm a c = gm b c) : a = b := by
  have e : ∀ d, d < 256 → gm (gm d c) (finv c) = d := fun d hd => by rw [gm_assoc d c _ hd hc (finv_lt c), gm_finv c hc h0, gm_one d hd]
  rw [← e a ha, h, e b hb]
theorem getD_mem {l : List Nat} {i : Nat} (h : i < l.length) : l.getD i 0 ∈ l := by
  rw [List.getD_eq_getElem?_getD, List.getElem?_eq_getElem h]; exact List.getElem_mem _
theorem sx_congr {f g : Nat → Nat} {l : List Nat} (h : ∀ i ∈ l, f i = g i) : sx (l.map f) = sx (l.map g) := by rw [List.map_congr_left h]
/-- **Lagrange at 0** -/
theorem lagrange : ∀ (l : List Nat), Places l → ∀ c : List Nat, (∀ a ∈ c, a < 256) → c.length ≤ l.length → lag (fun x => hv x c) l = hv 0 c
  | [], _, c, _, hlen => by
    have : c = [] := List.eq_nil_of_length_eq_zero (by simpa using hlen)
    subst this
    rfl
  | a :: l, hp, c, hc, hlen => by
    have ih := lagrange l hp.tail
    obtain ⟨ha, ha0⟩ := hp.1 a (by simp)
    have hlt : ∀ y ∈ l, y < 256 := fun y hy => (hp.1 y (by simp [hy])).1
    have hnot : a ∉ l := (List.nodup_cons.1 hp.2).1
    have hit : ∀ i, i < l.length → l.getD i 0 < 256 ∧ l.getD i 0 ^^^ a < 256 ∧ a ^^^ l.getD i 0 ≠ 0 := fun i hi => by
      have hm := getD_mem hi
      exact ⟨hlt _ hm, xor_lt8 (hlt _ hm) ha, xor_ne (fun e => hnot (e ▸ hm))⟩
    -- the sum of what is q times the sum with a
    have key : ∀ q : List Nat, (∀ b ∈ q, b < 256) → q.length ≤ l.length →
        sx ((List.range l.length).map fun i => gm (gm (l.getD i 0 ^^^ a) (hv (l.getD i 0) q)) (gm (qt (l.getD i 0) a) (wt (l.getD i 0) (l.eraseIdx i)))) = gm a (hv 0 q) := by
      intro q hq hql
      rw [← ih q hq hql]
      unfold lag
      rw [← sx_map_gm, List.map_map]
      refine sx_congr fun i hi => ?_
      obtain ⟨h1, h2, h3⟩ := hit i (List.mem_range.1 hi)
      have h4 := hv_lt (l.getD i 0) q hq
      have h5 := wt_lt (l.getD i 0) (l.eraseIdx i)
      show _ = gm a (gm (hv (l.getD i 0) q) (wt (l.getD i 0) (l.eraseIdx i)))
      have hd : gm (l.getD i 0 ^^^ a) (qt (l.getD i 0) a) = a := by
        unfold qt
        rw [gm_left_comm _ _ _ h2 ha (finv_lt _), Nat.xor_comm (l.getD i 0) a, gm_finv _ (xor_lt8 ha h1) h3, gm_one a ha]
      generalize l.getD i 0 = x at *
      generalize wt x (l.eraseIdx i) = w at *
      generalize hv x q = y at *
      have hqt := qt_lt x a
      generalize qt x a = z at *
      rw [gm_assoc _ _ _ h2 h4 (gm_lt _ _), gm_left_comm _ _ _ h4 hqt h5, ← gm_assoc _ _ _ h2 hqt (gm_lt _ _), hd]
    -- the sum of all weights is 1
    have hone : wt a l ^^^ sx ((List.range l.length).map fun i => gm 1 (gm (qt (l.getD i 0) a) (wt (l.getD i 0) (l.eraseIdx i)))) = 1 := by
      have hpa := px_ne a ha l hlt hnot
      have hpl := px_lt a l
      have hk := key (quo a (vp l)) (quo_lt a _ (vp_lt l)) (by rw [quo_len, vp_len]; omega)
      have e0 : hv 0 (vp l) ^^^ hv a (vp l) = gm (0 ^^^ a) (hv 0 (quo a (vp l))) := quo_spec a 0 ha (by omega) _ (vp_lt l)
      rw [hv_vp 0 (by omega) l hlt, hv_vp a ha l hlt, Nat.zero_xor] at e0
      rw [← e0] at hk
      have e1 : sx ((List.range l.length).map fun i => gm (gm (l.getD i 0 ^^^ a) (hv (l.getD i 0) (quo a (vp l)))) (gm (qt (l.getD i 0) a) (wt (l.getD i 0) (l.eraseIdx i)))) =
          sx ((List.range l.length).map fun i => gm (px a l) (gm 1 (gm (qt (l.getD i 0) a) (wt (l.getD i 0) (l.eraseIdx i))))) := by
        refine sx_congr fun i hi => ?_
        have hi' := List.mem_range.1 hi
        obtain ⟨h1, h2, h3⟩ := hit i hi'
        rw [← quo_spec a _ ha h1 _ (vp_lt l), hv_vp _ h1 l hlt, hv_vp a ha l hlt, px_zero_at _ l (getD_mem hi'), Nat.zero_xor, one_gm _ (gm_lt _ _)]
      rw [e1] at hk
      have e2 := sx_map_gm (px a l) ((List.range l.length).map fun i => gm 1 (gm (qt (l.getD i 0) a) (wt (l.getD i 0) (l.eraseIdx i))))
      rw [List.map_map] at e2
      have e3 : gm (px a l) (sx ((List.range l.length).map fun i => gm 1 (gm (qt (l.getD i 0) a) (wt (l.getD i 0) (l.eraseIdx i))))) = px 0 l ^^^ px a l := e2.symm.trans hk
      generalize hS : sx ((List.range l.length).map fun i => gm 1 (gm (qt (l.getD i 0) a) (wt (l.getD i 0) (l.eraseIdx i)))) = s at *
      have hs : s < 256 := by
        rw [← hS]
        have : ∀ (is : List Nat) (f : Nat → Nat), sx (is.map fun i => gm 1 (f i)) < 256 := by
          intro is f
          induction is with
          | nil => simp [sx]
          | cons i is ihh => exact xor_lt8 (gm_lt _ _) ihh
        exact this _ _
      have hw := wt_px a ha l hlt hnot
      refine gm_cancel_right (xor_lt8 (wt_lt a l) hs) (by omega) hpl hpa ?_
      rw [gm_left, hw, gm_comm s _ hs hpl, e3, one_gm _ hpl, ← Nat.xor_assoc, Nat.xor_self, Nat.zero_xor]
    rw [lag_cons]
    have hA := hv_lt a c hc
    have hquo := key (quo a c) (quo_lt a c hc) (by rw [quo_len]; simp at hlen; omega)
    have hsplit : sx ((List.range l.length).map fun i => gm (hv (l.getD i 0) c) (gm (qt (l.getD i 0) a) (wt (l.getD i 0) (l.eraseIdx i)))) =
        gm a (hv 0 (quo a c)) ^^^ gm (hv a c) (sx ((List.range l.length).map fun i => gm 1 (gm (qt (l.getD i 0) a) (wt (l.getD i 0) (l.eraseIdx i))))) := by
      rw [← hquo, ← sx_map_gm, List.map_map, ← sx_map_xor]
      refine sx_congr fun i hi => ?_
      obtain ⟨h1, h2, h3⟩ := hit i (List.mem_range.1 hi)
      have e : hv (l.getD i 0) c = gm (l.getD i 0 ^^^ a) (hv (l.getD i 0) (quo a c)) ^^^ hv a c := by
        rw [← quo_spec a _ ha h1 c hc, Nat.xor_assoc, Nat.xor_self, Nat.xor_zero]
      show _ = _ ^^^ gm (hv a c) (gm 1 (gm (qt (l.getD i 0) a) (wt (l.getD i 0) (l.eraseIdx i))))
      rw [one_gm _ (gm_lt _ _)]
      generalize gm (qt (l.getD i 0) a) (wt (l.getD i 0) (l.eraseIdx i)) = w at *
      rw [e, gm_left]
    rw [hsplit]
    have e4 : hv 0 c = hv a c ^^^ gm a (hv 0 (quo a c)) := by
      have := quo_spec a 0 ha (by omega) c hc
      rw [Nat.zero_xor] at this
      rw [← this, Nat.xor_comm (hv 0 c), ← Nat.xor_assoc, Nat.xor_self, Nat.zero_xor]
    rw [e4, Nat.xor_comm (gm a (hv 0 (quo a c))), ← Nat.xor_assoc, ← gm_right, hone, gm_one _ hA]
end Go.Proofs.Ytldanlglefgobaa
