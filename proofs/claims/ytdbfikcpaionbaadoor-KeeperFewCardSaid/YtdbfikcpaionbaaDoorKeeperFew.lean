/- KeeperFew returns true for any number of shares that are needed, any proof, own share and shares that are offered. Conditions: the rounds are as the program lays them. -/
import Derived.Test.YtdbfikcpaionbaaDoorZ08
import Derived.Test.YtdbfikcpaionbaaDoorTie
import Derived.Test.YtdbfikcpaionbaaDoorCards
import Derived.SevenTiedAt
/- Plain: an open keeper was offered enough places. -/
namespace Go.Proofs.YtdbfikcpaionbaaDoor
open Go.RowKit
set_option linter.unusedVariables false
set_option linter.unusedSimpArgs false
/-- places seen, in memory -/
structure FlA (vs : Array Value) (b : Nat → Bool) : Prop where
  size : vs.size = 256
  at_ : ∀ x, x < 256 → vs[x]? = some (.bool (b x))
theorem FlA.set {vs : Array Value} {b : Nat → Bool} (h : FlA vs b) (x : Nat) : FlA (vs.setIfInBounds x (.bool true)) (fun y => b y || y == x) := by
  refine ⟨by simpa using h.size, fun y hy => ?_⟩
  by_cases he : x = y
  · subst he
    rw [Array.getElem?_setIfInBounds_self_of_lt (by rw [h.size]; exact hy)]
    simp
  · rw [Array.getElem?_setIfInBounds_ne he, h.at_ y hy]
    have : (y == x) = false := by simpa using fun e => he e.symm
    rw [this, Bool.or_false]
def zFl : Array Value := Array.replicate 256 (.bool false)
theorem fla_zero : FlA zFl (fun _ => false) := ⟨by simp [zFl], fun x hx => by simp [zFl, hx]⟩
/-- how many places from 1 to k -/
def cntB (b : Nat → Bool) : Nat → Nat
  | 0 => 0
  | k + 1 => if b (k + 1) = true then cntB b k + 1 else cntB b k
theorem cntB_le (b : Nat → Bool) : ∀ k, cntB b k ≤ k
  | 0 => Nat.le_refl _
  | k + 1 => by have := cntB_le b k; unfold cntB; split <;> omega
theorem cntB_mono {b b' : Nat → Bool} (h : ∀ x, b x = true → b' x = true) : ∀ k, cntB b k ≤ cntB b' k
  | 0 => Nat.le_refl _
  | k + 1 => by
    have ih := cntB_mono h k
    unfold cntB
    by_cases h1 : b (k + 1) = true
    · rw [if_pos h1, if_pos (h _ h1)]; omega
    · rw [if_neg h1]; split <;> omega
theorem cnt_rise {b : Nat → Bool} {f : Nat → Nat} : ∀ k n, (∀ i j, i < j → j < n → f i < f j) → (∀ j, j < n → 0 < f j ∧ f j ≤ k ∧ b (f j) = true) → n ≤ cntB b k
  | 0, n, _, h => by
    rcases Nat.eq_zero_or_pos n with h0 | h0
    · omega
    · have := h 0 h0; omega
  | k + 1, 0, _, _ => Nat.zero_le _
  | k + 1, n + 1, hup, h => by
    have hn := h n (by omega)
    rcases Nat.lt_or_ge k (f n) with h1 | h1
    · have e : f n = k + 1 := by omega
      have ih := cnt_rise (b := b) (f := f) k n (fun i j h2 h3 => hup i j h2 (by omega)) (fun j hj => ⟨(h j (by omega)).1, by have := hup j n hj (by omega); omega, (h j (by omega)).2.2⟩)
      have hb : b (k + 1) = true := by rw [← e]; exact hn.2.2
      unfold cntB
      rw [if_pos hb]
      omega
    · have ih := cnt_rise (b := b) (f := f) k (n + 1) hup (fun j hj => ⟨(h j hj).1, by
        rcases Nat.lt_or_ge j n with h2 | h2
        · have := hup j n h2 (by omega); omega
        · obtain rfl : j = n := by omega
          exact h1, (h j hj).2.2⟩)
      unfold cntB
      split <;> omega
def pcs (mine L : List Nat) : Nat → Nat → Bool
  | 0 => fun y => false || y == mine.getD 0 0
  | i + 1 => fun y => pcs mine L i y || y == shX L i
structure Cvr (st : Kst) (b : Nat → Bool) : Prop where
  a : ∀ j, j < st.n → b (shX st.L j) = true
  m : b (st.mine.getD 0 0) = true
  o : st.o = true → st.t ≤ (cntB b 255 : Nat) ∧ prfL st.m = st.p
theorem Cvr.mono {st : Kst} {b b' : Nat → Bool} (h : Cvr st b) (hb : ∀ x, b x = true → b' x = true) : Cvr st b' :=
  ⟨fun j hj => hb _ (h.a j hj), hb _ h.m, fun ho => ⟨Int.le_trans (h.o ho).1 (by have := cntB_mono hb 255; omega), (h.o ho).2⟩⟩
theorem cvr_alone {s : List Nat} {b : Nat → Bool} (h : b (s.getD 0 0) = true) (j : Nat) (hj : j < aloN s) : b (shX (aloL s) j) = true := by
  have h1 := aloN_le s
  obtain rfl : j = 0 := by omega
  unfold aloN at hj
  unfold aloL
  split
  · rename_i h0; rw [if_pos h0] at hj; omega
  · show b (s.getD (0 * 33) 0) = true
    exact h
theorem cvr_new (t : Int) (p mine L : List Nat) : Cvr (kNew t p mine) (pcs mine L 0) := by
  have hm : pcs mine L 0 (mine.getD 0 0) = true := by unfold pcs; simp
  exact ⟨fun j hj => cvr_alone hm j hj, hm, fun h => by cases h⟩
theorem cvr_ins {st : Kst} {b : Nat → Bool} {s : List Nat} (h : Cvr st b) (hok : KOK st) (hs : s.length = 33) (hb : b (s.getD 0 0) = true) : Cvr (kIns st s) b := by
  unfold kIns
  split
  · have hk := posX_le st.L (s.getD 0 0) st.n
    refine ⟨fun j hj => ?_, h.m, h.o⟩
    show b (shX (insL st.L (posX st.L (s.getD 0 0) st.n) s) j) = true
    have hj' : j < st.n + 1 := hj
    rw [shX_ins hok.r.len hs hk]
    split
    · exact h.a j (by omega)
    · split
      · exact hb
      · exact h.a (j - 1) (by omega)
  · exact h
theorem cvr_try {st : Kst} {b : Nat → Bool} (h : Cvr st b) (hok : KOK st) : Cvr (kTry st) b := by
  unfold kTry
  split
  · exact h
  · rename_i hc
    split
    · rename_i hp
      refine ⟨h.a, h.m, fun _ => ⟨?_, hp⟩⟩
      have h1 := cnt_rise (b := b) (f := shX st.L) 255 st.n hok.r.up (fun j hj => ⟨Nat.pos_of_ne_zero (hok.r.nz j hj), by have := shX_lt hok.r.lt j; omega, h.a j hj⟩)
      show st.t ≤ _
      omega
    · exact ⟨fun j hj => cvr_alone h.m j hj, h.m, h.o⟩
theorem cvr_offer {st : Kst} {b : Nat → Bool} {s : List Nat} (h : Cvr st b) (hok : KOK st) (hs : s.length = 33) (hl : ∀ c ∈ s, c < 256) : Cvr (kOffer st s) (fun y => b y || y == s.getD 0 0) := by
  have h2 : Cvr st (fun y => b y || y == s.getD 0 0) := h.mono fun x hx => by simp [hx]
  unfold kOffer
  split
  · exact h2
  · exact cvr_try (cvr_ins h2 hok hs (by simp)) (kIns_ok hok hs hl)
theorem cvr_run {t : Int} {p mine L : List Nat} {n : Nat} (hok : KOK (kNew t p mine)) (hL : L.length = n * 33) (hl : ∀ c ∈ L, c < 256) : ∀ i, i ≤ n → Cvr (kRun (kNew t p mine) L i) (pcs mine L i)
  | 0, _ => cvr_new t p mine L
  | i + 1, hi => by
    have h := cvr_offer (s := shR L i) (cvr_run hok hL hl i (by omega)) (kRun_ok hok hL hl i (by omega)) (shR_len hL (by omega)) (shR_lt hl i)
    rw [shR_at L i 0 (by decide)] at h
    exact h
theorem kTry_t (st : Kst) : (kTry st).t = st.t ∧ (kTry st).p = st.p := by
  unfold kTry
  split
  · exact ⟨rfl, rfl⟩
  · split <;> exact ⟨rfl, rfl⟩
theorem kOffer_t (st : Kst) (s : List Nat) : (kOffer st s).t = st.t ∧ (kOffer st s).p = st.p := by
  unfold kOffer
  split
  · exact ⟨rfl, rfl⟩
  · have h1 := kIns_t st s
    have h2 := kTry_t (kIns st s)
    exact ⟨h2.1.trans h1.1, h2.2.trans h1.2.1⟩
theorem kRun_t (st : Kst) (L : List Nat) : ∀ i, (kRun st L i).t = st.t ∧ (kRun st L i).p = st.p
  | 0 => ⟨rfl, rfl⟩
  | i + 1 => ⟨(kOffer_t _ _).1.trans (kRun_t st L i).1, (kOffer_t _ _).2.trans (kRun_t st L i).2⟩
/-- the keeper and the places seen -/
structure FwR (Z wr : World) (g1 g10 : Nat) (st : Kst) (v : Value) (vs : Array Value) (b : Nat → Bool) : Prop where
  k : KAt wr g1 48 101 st v
  pl : Blk wr g10 39 vs
  fl : FlA vs b
  zb : Below Z.heap.size Z wr
  l1 : Z.heap.size ≤ g1
  l2 : g1 < g10
  x : v.ownBlock ≠ some g10
theorem FwR.next {Z wr w' : World} {g1 g10 : Nat} {st : Kst} {v : Value} {vs : Array Value} {b : Nat → Bool} (h : FwR Z wr g1 g10 st v vs b) (hb : Below wr.heap.size wr w') : FwR Z w' g1 g10 st v vs b :=
  ⟨h.k.next hb, h.pl.below hb h.pl.lt, h.fl, h.zb.trans (hb.mono h.zb.size), h.l1, h.l2, h.x⟩
theorem FwR.mark {Z wr : World} {g1 g10 : Nat} {st : Kst} {v : Value} {vs : Array Value} {b : Nat → Bool} (h : FwR Z wr g1 g10 st v vs b) (x : Nat) : FwR Z (wr.setCell ⟨g10, x, none⟩ (.bool true)) g1 g10 st v (vs.setIfInBounds x (.bool true)) (fun y => b y || y == x) := by
  have ho : Only (fun i => i = g10) wr (wr.setCell ⟨g10, x, none⟩ (.bool true)) := (Only.refl (fun i => i = g10) wr).setCell (p := ⟨g10, x, none⟩) (fun _ => rfl) _
  have h1 := h.l1
  have h2 := h.l2
  refine ⟨h.k.keep ho (by omega) (fun b hb he => h.x (he ▸ hb)), h.pl.set_ x _, h.fl.set x, h.zb.trans (ho.below (fun i hi => by have : i = g10 := hi; omega) h.zb.size), h.l1, h.l2, h.x⟩
theorem FwR.offer {Z wr w' : World} {g1 g10 : Nat} {st st' : Kst} {v : Value} {vs : Array Value} {b : Nat → Bool} (h : FwR Z wr g1 g10 st v vs b) (hk : KGo wr g1 48 101 st' v w') : ∃ v', FwR Z w' g1 g10 st' v' vs b := by
  obtain ⟨v', k1, k2, k3⟩ := hk
  have h1 := h.l1
  have h2 := h.l2
  have h3 := h.pl.lt
  refine ⟨v', k1, h.pl.keep k2 (fun hs => ?_), h.fl, h.zb.trans (k2.below (fun i hi => ?_) h.zb.size), h.l1, h.l2, fun he => ?_⟩
  · rcases hs with hs | hs
    · omega
    · exact h.x hs
  · rcases hi with hi | hi
    · omega
    · have := own_base h.k.own i hi; omega
  · rcases k3 with k3 | k3
    · exact h.x (k3 ▸ he)
    · have := k3 _ he; omega
end Go.Proofs.YtdbfikcpaionbaaDoor
/- KeeperFew, walked. -/
namespace Go.Proofs.YtdbfikcpaionbaaDoor
open Go.RowKit
set_option linter.unusedVariables false
set_option linter.unusedSimpArgs false
set_option maxRecDepth 100000 in
theorem zero_fl (w : World) : (zeroValue 39).run Tryd.prog w = .ok (.agg zFl) w := by kernel_rfl
theorem zFl_size : zFl.size = 256 := by simp [zFl]
theorem zFl_ne : ¬ zFl = #[] := by intro h; have := congrArg Array.size h; rw [zFl_size] at this; cases this
set_option maxRecDepth 100000 in
set_option maxHeartbeats 8000000 in
theorem few_c (t : Int) (p s L : List Nat) (A : Option Addr) (n c : Nat) (w : World) (hp : p.length = 32) (hpb : ∀ c ∈ p, c < 256) (hs : s.length = 33) (hsb : ∀ c ∈ s, c < 256) (h0 : -9223372036854775808 ≤ t) (h1 : t ≤ 9223372036854775807) (hc1 : n ≤ c) (hc2 : c ≤ maxLen) (hl : ∀ c ∈ L, c < 256) (hr : RdS w w.heap.size A n L) (hR : RoundsAt w) :
    Calls Tryd.prog 4 #[.int .i64 t, .agg (vb p), .agg (vb s), .slice A n c] w fun e w' => e = .returned (.bool true) ∧ Below w.heap.size w w' := by
  have HRO := Lib.hid hR
  have HLB := Lib.hid hl
  have HPS := Lib.hid (sum_sz hp)
  have HSS := Lib.hid (share_size s hs)
  by_cases hn : 12 < n
  · have q1 : (12 : Int) < (n : Int) := by omega
    clear hr hl hR hn
    go_enter Tryd.func4, Tryd.ntmps4
    go_upto_region 1 with (first
      | (refine Go.Great.wpList_boxTo rfl 28 (.tmp 1) rfl (some 5) rfl w.heap.size rfl (vb p) rfl ?_)
      | (refine Go.Great.wpList_boxTo rfl 31 (.tmp 2) rfl (some 6) rfl (w.heap.size + 1) (by simp) (vb s) rfl ?_))
    have hz1 : Blk ((w.alloc (Obj.cells (vb p) 28)).alloc (Obj.cells (vb s) 31)) w.heap.size 28 (vb p) := (Blk.new w _ _).alloc _
    have hz2 : Blk ((w.alloc (Obj.cells (vb p) 28)).alloc (Obj.cells (vb s) 31)) (w.heap.size + 1) 31 (vb s) := by
      have h := Blk.new (w.alloc (Obj.cells (vb p) 28)) 31 (vb s)
      simpa using h
    have hzb : Below w.heap.size w ((w.alloc (Obj.cells (vb p) 28)).alloc (Obj.cells (vb s) 31)) := ((Below.refl _ _).alloc (Nat.le_refl _) _).alloc (by simp) _
    generalize (w.alloc (Obj.cells (vb p) 28)).alloc (Obj.cells (vb s) 31) = Z at *
    have HZ1 := Lib.hid hz1
    have HZ2 := Lib.hid hz2
    have HZB := Lib.hid hzb
    clear hz1 hz2 hzb
    go_wp2_with (go_at_call 6; (refine (awake30_c Z (HRO.out.next HZB.out)).mono ?_); rintro e W9 ⟨rfl, hb9⟩; have HB9 := Lib.hid (HZB.out.trans (hb9.mono HZB.out.size)); clear hb9)
    go_ret
    exact ⟨rfl, HB9.out⟩
  have q1 : ¬ (12 : Int) < (n : Int) := by omega
  by_cases ht : 12 < t
  · clear hr hl hR hn
    go_enter Tryd.func4, Tryd.ntmps4
    go_upto_region 1 with (first
      | (refine Go.Great.wpList_boxTo rfl 28 (.tmp 1) rfl (some 5) rfl w.heap.size rfl (vb p) rfl ?_)
      | (refine Go.Great.wpList_boxTo rfl 31 (.tmp 2) rfl (some 6) rfl (w.heap.size + 1) (by simp) (vb s) rfl ?_))
    have hz1 : Blk ((w.alloc (Obj.cells (vb p) 28)).alloc (Obj.cells (vb s) 31)) w.heap.size 28 (vb p) := (Blk.new w _ _).alloc _
    have hz2 : Blk ((w.alloc (Obj.cells (vb p) 28)).alloc (Obj.cells (vb s) 31)) (w.heap.size + 1) 31 (vb s) := by
      have h := Blk.new (w.alloc (Obj.cells (vb p) 28)) 31 (vb s)
      simpa using h
    have hzb : Below w.heap.size w ((w.alloc (Obj.cells (vb p) 28)).alloc (Obj.cells (vb s) 31)) := ((Below.refl _ _).alloc (Nat.le_refl _) _).alloc (by simp) _
    generalize (w.alloc (Obj.cells (vb p) 28)).alloc (Obj.cells (vb s) 31) = Z at *
    have HZ1 := Lib.hid hz1
    have HZ2 := Lib.hid hz2
    have HZB := Lib.hid hzb
    clear hz1 hz2 hzb
    go_wp2_with (go_at_call 6; (refine (awake30_c Z (HRO.out.next HZB.out)).mono ?_); rintro e W9 ⟨rfl, hb9⟩; have HB9 := Lib.hid (HZB.out.trans (hb9.mono HZB.out.size)); clear hb9)
    go_ret
    exact ⟨rfl, HB9.out⟩
  have HNW := Lib.hid (fun W => knew_c t p s W hp hpb hs hsb h0 h1)
  have hok0 := kNew_ok hp hpb hs hsb h0 h1
  have hn0 : (kNew t p s).n ≤ 1 := aloN_le s
  have HOK := Lib.hid (fun i (hi : i ≤ n) => kRun_ok hok0 hr.1 hl i hi)
  have HCV := Lib.hid (fun i (hi : i ≤ n) => cvr_run hok0 hr.1 hl i hi)
  have HTP := Lib.hid (fun i => kRun_t (kNew t p s) L i)
  have HNN := Lib.hid (fun i (hi : i ≤ n) => (show (kRun (kNew t p s) L i).n ≤ 800 by have := kRun_n (kNew t p s) L i; omega))
  have HPSL := Lib.hid (show (Tryd.prog.info? 28).map (·.size) = some (byt p).length by rw [byt_len, hp]; kernel_rfl)
  have hcm : (c : Int) ≤ 9223372036854775807 := by simp only [maxLen] at hc2; omega
  have HLN := Lib.hid hr.1
  have HAT := Lib.hid (fun (h : 0 < n) => hr.open_ h)
  have HX0 := Lib.hid (show ∀ W, Blk W (w.heap.size + 1) 31 (vb s) → W.cell? ⟨w.heap.size + 1, 0, none⟩ = some (.int .u8 (s.getD 0 0 : Nat)) from fun W h => (h.cell 0).trans (vb_atF _ 0 (by omega)))
  have hx0 : s.getD 0 0 < 256 := getD_lt hsb 0
  have HP0 := Lib.hid (show ∀ y, pcs s L 0 y = (false || y == s.getD 0 0) from fun y => rfl)
  have HPP := Lib.hid (show p.length = 32 ∧ ∀ c ∈ p, c < 256 from ⟨hp, hpb⟩)
  have zf := zero_fl
  have zn := zFl_size
  have ze := zFl_ne
  have HFZ := Lib.hid fla_zero
  clear hr hl hR hok0 hn0 hpb hsb
  go_enter Tryd.func4, Tryd.ntmps4
  go_upto_region 1 with (first
    | (refine Go.Great.wpList_boxTo rfl 28 (.tmp 1) rfl (some 5) rfl w.heap.size rfl (vb p) rfl ?_)
    | (refine Go.Great.wpList_boxTo rfl 31 (.tmp 2) rfl (some 6) rfl (w.heap.size + 1) (by simp) (vb s) rfl ?_))
  have hz1 : Blk ((w.alloc (Obj.cells (vb p) 28)).alloc (Obj.cells (vb s) 31)) w.heap.size 28 (vb p) := (Blk.new w _ _).alloc _
  have hz2 : Blk ((w.alloc (Obj.cells (vb p) 28)).alloc (Obj.cells (vb s) 31)) (w.heap.size + 1) 31 (vb s) := by
    have h := Blk.new (w.alloc (Obj.cells (vb p) 28)) 31 (vb s)
    simpa using h
  have hzb : Below w.heap.size w ((w.alloc (Obj.cells (vb p) 28)).alloc (Obj.cells (vb s) 31)) := ((Below.refl _ _).alloc (Nat.le_refl _) _).alloc (by simp) _
  generalize (w.alloc (Obj.cells (vb p) 28)).alloc (Obj.cells (vb s) 31) = Z at *
  have HZ1 := Lib.hid hz1
  have HZ2 := Lib.hid hz2
  have HZB := Lib.hid hzb
  clear hz1 hz2 hzb
  have HNZ := Lib.hid (HNW.out Z)
  go_upto_region 5 with (first
    | (refine wpList_load_row rfl 28 (.tmp 5) rfl w.heap.size rfl 28 (vb p) (0, 0) _ HZ1.out Tryd.underlying28 rfl HPS.out ?_)
    | (refine wpList_load_row rfl 31 (.tmp 6) rfl (w.heap.size + 1) rfl 31 (vb s) (0, 0) _ HZ2.out Tryd.underlying31 rfl HSS.out ?_)
    | (go_at_call 7; (refine HNZ.out.mono ?_); rintro e W1 ⟨g1, v1, rfl, hl1, hk1, hb1, ho1⟩; have HK1 := Lib.hid hk1; have HL1 := Lib.hid hl1; have HB1 := Lib.hid hb1; have HO1 := Lib.hid ho1; clear hl1 hk1 hb1 ho1))
  have hbA : Below W1.heap.size W1 (W1.alloc (Obj.cells zFl 39)) := (Below.refl _ _).alloc (Nat.le_refl _) _
  have hf1 : FwR Z (W1.alloc (Obj.cells zFl 39)) g1 W1.heap.size (kNew t p s) v1 zFl (fun _ => false) := by
    refine ⟨HK1.out.next hbA, Blk.new _ _ _, HFZ.out, HB1.out.trans (hbA.mono HB1.out.size), HL1.out, HK1.out.lt, fun h => ?_⟩
    have := own_lt HK1.out.own _ h
    omega
  have HF1 := Lib.hid hf1
  have hz2 : Blk (W1.alloc (Obj.cells zFl 39)) (w.heap.size + 1) 31 (vb s) := HZ2.out.below hf1.zb HZ2.out.lt
  have c0 := HX0.out _ hz2
  have hg10 : 0 < g1 := by have h := HRO.out.2; have h2 := HZB.out.size; have h3 := HL1.out; omega
  clear hbA hf1 hz2 HK1 HO1 HB1 HNZ
  generalize W1.alloc (Obj.cells zFl 39) = W2 at *
  generalize W1.heap.size = g10 at *
  generalize hxx : s.getD 0 0 = x0 at *
  have HXX := Lib.hid hxx
  clear hxx
  have d0 : W2.cell? ⟨g10, x0, none⟩ = some (.bool false) := (HF1.out.pl.cell x0).trans (HF1.out.fl.at_ x0 hx0)
  have f0 : W2.frozen? ⟨g10, x0, none⟩ = false := HF1.out.pl.free x0
  clear zf zn ze
  go_upto_region 6 with fail
  have HF2 := Lib.hid (HF1.out.mark x0)
  clear HF1 c0 d0 f0
  generalize W2.setCell ⟨g10, x0, none⟩ (.bool true) = W3 at *
  obtain ⟨st0, hst0⟩ : ∃ st0, st0 = kNew t p s := ⟨_, rfl⟩
  rw [← hst0] at HF2 HOK HNN HCV HTP
  have HTP0 := Lib.hid (show st0.t = t ∧ st0.p = p by rw [hst0]; exact ⟨rfl, rfl⟩)
  clear hst0
  have HPZ := Lib.hid (show pcs s L 0 = fun y => false || y == x0 from funext HP0.out)
  go_wp2_with fail
  go_loopw [11] (fun i wr => ∃ j : Nat, j ≤ n ∧ i = .int .i64 (j : Nat) ∧ ∃ v vs, FwR Z wr g1 g10 (kRun st0 L j) v vs (pcs s L j)) (fun i _ => n - (intOf i).toNat)
  case atStart => exact ⟨0, Nat.zero_le _, rfl, _, _, by rw [HPZ.out]; exact HF2.out⟩
  case round =>
    rename World => wr
    clear HF2
    obtain ⟨i, hi, rfl, v, vs, hfr⟩ := hrel
    have HFR := Lib.hid hfr
    clear hfr
    by_cases hlt : i < n
    · have q2 : (i : Int) < (n : Int) := by omega
      obtain ⟨ad, rfl, had, hat⟩ := HAT.out (by omega)
      have HADB := Lib.hid had
      have HATA := Lib.hid hat
      have c1 := (hat.below (HZB.out.trans (HFR.out.zb.mono HZB.out.size)) had).x HLN.out hlt
      have hxl := shX_lt HLB.out i
      have hs33 := shR_len HLN.out hlt
      have hs256 := shR_lt HLB.out i
      have HSZ := Lib.hid (share_bytes (shR L i) hs33)
      have hok := HOK.out i (by omega)
      have hnn := HNN.out i (by omega)
      have HCV1 := Lib.hid (HCV.out (i + 1) (by omega))
      have d1 : wr.cell? ⟨g10, shX L i, none⟩ = some (.bool (pcs s L i (shX L i))) := (HFR.out.pl.cell _).trans (HFR.out.fl.at_ _ hxl)
      have f1 := HFR.out.pl.free (shX L i)
      have HPS1 := Lib.hid (show pcs s L (i + 1) = fun y => pcs s L i y || y == shX L i from rfl)
      generalize hxi : shX L i = xi at *
      clear hxi had hat
      generalize pcs s L i xi = b0 at d1
      obtain ⟨st2, hst2⟩ : ∃ st2, st2 = kRun st0 L (i + 1) := ⟨_, rfl⟩
      obtain ⟨o', ho'⟩ : ∃ o', o' = st2.o := ⟨_, rfl⟩
      have HOFK := Lib.hid (fun (W : World) (v : Value) (h : KAt W g1 48 101 (kRun st0 L i) v) (hR : RoundsAt W) => offer_c W g1 (kRun st0 L i) v (shR L i) hs33 hs256 hnn hok h hR hg10)
      rw [show kOffer (kRun st0 L i) (shR L i) = st2 from hst2.symm] at HOFK
      unfold KRet at HOFK
      rw [← ho'] at HOFK
      rw [← hst2] at HCV1
      have HTP1 := Lib.hid (show st2.t = t by rw [hst2]; exact (HTP.out (i + 1)).1.trans HTP0.out.1)
      have HST2 := Lib.hid hst2
      have HSO := Lib.hid ho'.symm
      have HLT := Lib.hid hlt
      have HRR := Lib.hid (fun W (h : Below Z.heap.size Z W) => (HRO.out.next HZB.out).next (h.mono (Nat.le_refl _)))
      clear hs33 hs256 hok hnn hst2 ho'
      go_upto_region 10 with fail
      obtain ⟨B, hB⟩ : ∃ B, B = pcs s L (i + 1) := ⟨_, rfl⟩
      have hf3 := HFR.out.mark xi
      rw [← HPS1.out, ← hB] at hf3
      rw [← hB] at HCV1
      have HF3 := Lib.hid hf3
      have HB := Lib.hid hB
      clear hf3 hB c1 d1 f1 HFR
      generalize wr.setCell ⟨g10, xi, none⟩ (.bool true) = W5 at *
      generalize vs.setIfInBounds xi (.bool true) = vs5 at *
      have HRow := Lib.hid ((HATA.out.below (HZB.out.trans (HF3.out.zb.mono HZB.out.size)) HADB.out).share i)
      have HR5 := Lib.hid (HRR.out W5 HF3.out.zb)
      go_wp2_with fail
      go_loopw [12, 13] (fun a x w2 => ∃ k : Nat, 1 ≤ k ∧ k ≤ 256 ∧ x = .int .i64 (k : Nat) ∧ a = .int .i64 (cntB B (k - 1) : Nat) ∧ w2 = W5) (fun _ x _ => 256 - (intOf x).toNat)
      case atStart => exact ⟨1, by omega, by omega, rfl, rfl, rfl⟩
      case round =>
        rename World => w2
        obtain ⟨k, hk1, hk, rfl, rfl, rfl⟩ := hrel
        have hcl := cntB_le B (k - 1)
        by_cases hk2 : k < 256
        · have q3 : (k : Int) < 256 := by omega
          have d2 : w2.cell? ⟨g10, k, none⟩ = some (.bool (B k)) := (HF3.out.pl.cell _).trans (HF3.out.fl.at_ _ hk2)
          have HCN := Lib.hid (show cntB B k = if B k = true then cntB B (k - 1) + 1 else cntB B (k - 1) by
            obtain ⟨j, rfl⟩ : ∃ j, k = j + 1 := ⟨k - 1, by omega⟩
            rfl)
          generalize B k = bb at *
          generalize cntB B (k - 1) = N at *
          cases bb with
          | false =>
            go_wp2_with fail
            go_roundw
            case rel => exact ⟨k + 1, by omega, by omega, by go_num, by rw [show k + 1 - 1 = k from rfl, HCN.out]; rfl, by trivial⟩
            case measure => simp [intOf]; omega
          | true =>
            go_wp2_with fail
            go_roundw
            case rel => exact ⟨k + 1, by omega, by omega, by go_num, by rw [show k + 1 - 1 = k from rfl, HCN.out, if_pos rfl]; go_num, by trivial⟩
            case measure => simp [intOf]; omega
        · obtain rfl : k = 256 := by omega
          have HCT := Lib.hid (fun h => (HCV1.out.o h).1)
          rw [show (256 : Nat) - 1 = 255 from rfl] at hcl ⊢
          generalize cntB B 255 = N at *
          cases o' with
          | false =>
            go_wp2_with (first
              | (refine wpList_load_at rfl 31 (.tmp 55) rfl (ad.add (i * 33)) rfl (shR L i) _ HRow.out Tryd.underlying31 rfl HSZ.out ?_)
              | (go_at_call 11; (refine (HOFK.out w2 v HF3.out.k HR5.out).mono ?_); rintro e w6 ⟨rfl, kg⟩; have HKG := Lib.hid kg; clear kg))
            obtain ⟨v6, hf6⟩ := HF3.out.offer HKG.out
            go_roundw
            case rel => exact ⟨i + 1, HLT.out, by go_num, v6, vs5, by rw [← HST2.out, ← HB.out]; exact hf6⟩
            case measure => have := HLT.out; simp [intOf]; omega
          | true =>
            have q4 : ¬ (N : Int) < t := by have h := HCT.out HSO.out; rw [HTP1.out] at h; omega
            go_wp2_with (first
              | (refine wpList_load_at rfl 31 (.tmp 55) rfl (ad.add (i * 33)) rfl (shR L i) _ HRow.out Tryd.underlying31 rfl HSZ.out ?_)
              | (go_at_call 11; (refine (HOFK.out w2 v HF3.out.k HR5.out).mono ?_); rintro e w6 ⟨rfl, kg⟩; have HKG := Lib.hid kg; clear kg))
            obtain ⟨v6, hf6⟩ := HF3.out.offer HKG.out
            go_roundw
            case rel => exact ⟨i + 1, HLT.out, by go_num, v6, vs5, by rw [← HST2.out, ← HB.out]; exact hf6⟩
            case measure => have := HLT.out; simp [intOf]; omega
    · have q2 : ¬ (i : Int) < (n : Int) := by omega
      obtain rfl : i = n := by omega
      obtain ⟨st2, hst2⟩ : ∃ st2, st2 = kRun st0 L i := ⟨_, rfl⟩
      obtain ⟨o', ho'⟩ : ∃ o', o' = st2.o := ⟨_, rfl⟩
      have hsk := HOK.out i (Nat.le_refl _)
      have hcv := HCV.out i (Nat.le_refl _)
      rw [← hst2] at hsk hcv HFR
      have HSK := Lib.hid hsk
      have HSO := Lib.hid ho'.symm
      have HPR := Lib.hid (show st2.o = true → prfL st2.m = p from fun h => by rw [(hcv.o h).2, hst2]; exact (HTP.out i).2.trans HTP0.out.2)
      have HRR := Lib.hid (fun W (h : Below Z.heap.size Z W) => (HRO.out.next HZB.out).next (h.mono (Nat.le_refl _)))
      clear hsk hcv hst2
      cases o' with
      | false =>
        have hms := master_c wr g1 st2 v HSK.out HFR.out.k
        rw [show kmL st2 = z32L by unfold kmL; rw [← ho']; rfl, show kmE st2 = 11 by unfold kmE; rw [← ho']; rfl] at hms
        have HMS := Lib.hid hms
        have HMZ := Lib.hid (key_szL (l := z32L) rfl)
        have HMQ := Lib.hid (show z32.size = (vb z32L).size by rw [vb_size]; first | rfl | exact HSK.out.kl.symm)
        have HMKL := Lib.hid (show (Tryd.prog.info? 23).map (·.size) = some (byt z32L).length by rw [byt_len]; exact (HMZ.out.trans (congrArg some (vb_size _))))
        have l3 : ∀ W, (Op.equalIn 10000 28 (.agg (vb p)) (.agg (vb p))).run Tryd.prog W = .ok true W := fun W => by
          have h := run_equalIn_barr (P := Tryd.prog) (T := 28) Tryd.underlying28 Tryd.underlying5 (by kernel_rfl) (by kernel_rfl) p p HPP.out.1 HPP.out.1 HPP.out.2 HPP.out.2 W
          rwa [beq_self_eq_true] at h
        have zf := zero_key
        have zn := z32_size
        have ze := z32_ne
        clear hms ho'
        go_upto_region 19 with (first
          | (go_at_call 12; (refine HMS.out.mono ?_); rintro e w5 ⟨rfl, hb5⟩; have HB5 := Lib.hid (HFR.out.zb.trans (hb5.mono HFR.out.zb.size)); clear hb5)
          | (refine wpList_store_rowTo rfl 23 (.tmp 14) (.tmp 66) rfl rfl w5.heap.size (vb z32L) rfl rfl 23 z32 (by exact Blk.new w5 _ _) HMZ.out HMQ.out (vb_one _) ?_))
        have h61 : Blk ((w5.alloc (Obj.cells z32 23)).setRow w5.heap.size (vb z32L)) w5.heap.size 23 (vb z32L) := setRow_heap _ _ z32 _ 23 (0, 0) (Blk.new w5 _ _)
        have h6b : Below w5.heap.size w5 ((w5.alloc (Obj.cells z32 23)).setRow w5.heap.size (vb z32L)) := Below.setRow ((Below.refl _ _).alloc (Nat.le_refl _) _) (Nat.le_refl _) _
        have HB6 := Lib.hid (HB5.out.trans (h6b.mono HB5.out.size))
        have H61 := Lib.hid h61
        generalize (w5.alloc (Obj.cells z32 23)).setRow w5.heap.size (vb z32L) = W6 at *
        generalize w5.heap.size = g6 at *
        clear h61 h6b zf zn ze
        have HR6 := Lib.hid (fun x : Ext W6 => HRR.out x.wd (HB6.out.trans (x.bel.mono HB6.out.size)))
        refine wp_region_class (Ext.wd (w0 := W6)) (by kernel_rfl) (by kernel_rfl) (Ext.of (Below.refl _ _).drew) ?_
        repeat (first
          | (go_big_quiet_step ((go_at_call 6; exact ext_call (awake30_c _ (HR6.out _))))))
        refine wpQuiet_nil ?_
        rintro _ ⟨x, rfl⟩
        have HX := Lib.hid (HZB.out.trans ((HB6.out.trans (x.bel.mono HB6.out.size)).mono HZB.out.size))
        go_wp2_with fail
        go_ret
        exact ⟨rfl, HX.out⟩
      | true =>
        have hms := master_c wr g1 st2 v HSK.out HFR.out.k
        rw [show kmL st2 = st2.m by unfold kmL; rw [← ho']; rfl, show kmE st2 = 0 by unfold kmE; rw [← ho']; rfl] at hms
        have HMS := Lib.hid hms
        have HMZ := Lib.hid (key_szL (l := st2.m) HSK.out.kl)
        have HMQ := Lib.hid (show z32.size = (vb st2.m).size by rw [vb_size]; first | rfl | exact HSK.out.kl.symm)
        have HMKL := Lib.hid (show (Tryd.prog.info? 23).map (·.size) = some (byt st2.m).length by rw [byt_len]; exact (HMZ.out.trans (congrArg some (vb_size _))))
        have l3 : ∀ W, (Op.equalIn 10000 28 (.agg (vb p)) (.agg (vb p))).run Tryd.prog W = .ok true W := fun W => by
          have h := run_equalIn_barr (P := Tryd.prog) (T := 28) Tryd.underlying28 Tryd.underlying5 (by kernel_rfl) (by kernel_rfl) p p HPP.out.1 HPP.out.1 HPP.out.2 HPP.out.2 W
          rwa [beq_self_eq_true] at h
        have zf := zero_key
        have zn := z32_size
        have ze := z32_ne
        clear hms ho'
        go_upto_region 19 with (first
          | (go_at_call 12; (refine HMS.out.mono ?_); rintro e w5 ⟨rfl, hb5⟩; have HB5 := Lib.hid (HFR.out.zb.trans (hb5.mono HFR.out.zb.size)); clear hb5)
          | (refine wpList_store_rowTo rfl 23 (.tmp 14) (.tmp 66) rfl rfl w5.heap.size (vb st2.m) rfl rfl 23 z32 (by exact Blk.new w5 _ _) HMZ.out HMQ.out (vb_one _) ?_))
        have h61 : Blk ((w5.alloc (Obj.cells z32 23)).setRow w5.heap.size (vb st2.m)) w5.heap.size 23 (vb st2.m) := setRow_heap _ _ z32 _ 23 (0, 0) (Blk.new w5 _ _)
        have h6b : Below w5.heap.size w5 ((w5.alloc (Obj.cells z32 23)).setRow w5.heap.size (vb st2.m)) := Below.setRow ((Below.refl _ _).alloc (Nat.le_refl _) _) (Nat.le_refl _) _
        have HB6 := Lib.hid (HB5.out.trans (h6b.mono HB5.out.size))
        have H61 := Lib.hid h61
        generalize (w5.alloc (Obj.cells z32 23)).setRow w5.heap.size (vb st2.m) = W6 at *
        generalize w5.heap.size = g6 at *
        clear h61 h6b zf zn ze
        have HR6 := Lib.hid (fun x : Ext W6 => HRR.out x.wd (HB6.out.trans (x.bel.mono HB6.out.size)))
        have HRM := Lib.hid (show ∀ w', (∃ x : Ext W6, w' = x.wd) → w'.rangeAt g6 0 (byt st2.m) from fun w' h => by obtain ⟨x, rfl⟩ := h; exact rangeAt_blk (H61.out.below x.bel H61.out.lt))
        have HRP := Lib.hid (show ∀ w', (∃ x : Ext W6, w' = x.wd) → w'.rangeAt w.heap.size 0 (byt p) from fun w' h => by obtain ⟨x, rfl⟩ := h; exact rangeAt_blk (HZ1.out.below (HB6.out.trans (x.bel.mono HB6.out.size)) HZ1.out.lt))
        have hkp := fun x : Ext W6 => kproof_c st2.m x.wd HSK.out.kl HSK.out.kb (HR6.out x)
        rw [HPR.out HSO.out] at hkp
        have HKP := Lib.hid hkp
        clear hkp
        refine wp_region_class (Ext.wd (w0 := W6)) (by kernel_rfl) (by kernel_rfl) (Ext.of (Below.refl _ _).drew) ?_
        repeat (first
          | (refine wpQuiet_load_mid rfl 23 (.tmp 14) rfl g6 0 rfl st2.m _ HRM.out Tryd.underlying23 rfl HMKL.out _ (by simp only [Act.put, List.setIfInBounds_toArray, List.set_cons_succ, List.set_cons_zero]; rfl) ?_)
          | (refine wpQuiet_load_mid rfl 28 (.tmp 5) rfl w.heap.size 0 rfl p _ HRP.out Tryd.underlying28 rfl HPSL.out _ (by simp only [Act.put, List.setIfInBounds_toArray, List.set_cons_succ, List.set_cons_zero]; rfl) ?_)
          | (go_big_quiet_step ((first | (go_at_call 13; exact ext_call (HKP.out _)) | (go_at_call 6; exact ext_call (awake30_c _ (HR6.out _)))))))
        refine wpQuiet_nil ?_
        rintro _ ⟨x, rfl⟩
        have HX := Lib.hid (HZB.out.trans ((HB6.out.trans (x.bel.mono HB6.out.size)).mono HZB.out.size))
        go_wp2_with fail
        go_ret
        exact ⟨rfl, HX.out⟩
end Go.Proofs.YtdbfikcpaionbaaDoor
namespace Go.Proofs.YtdbfikcpaionbaaDoor
open Go Go.ChangeShapes Go.WideShapes Go.ChangeAt Go.RowKit
set_option maxRecDepth 100000 in
theorem keeperFew_lifted (os : Os) (started : os.Started) (H : Type) (enc : TypeId × Value → H) :
    ReturnsInHanded {} Tryd.checked os 4 .any (fun w args => (Rows.keeperFewSpec.pre enc Tryd.prog Tryd.f4 [] false w args ∧ laidMetH Tryd.prog laidR w) ∧ sizedMet enc Tryd.prog Tryd.f4 (OpenSpec.ofChange Rows.keeperFewSpec) false w args) (Rows.keeperFewSpec.post enc Tryd.prog Tryd.f4 false true false false) := by
  refine liftL started _ rfl (by kernel_rfl) Tryd.func4 ⟨rfl, fun H ds h => ?_⟩ rfl (of_decide_eq_true (by kernel_rfl))
    (ChangeSpec.witness_shaped (enc := enc) (C := Tryd.checked) (os := os) (X := fun w _ => laidMetH Tryd.prog laidR w) false (World.doorLaid Tryd.prog 400 os) #[.int .i64 0, .agg (Array.replicate 32 (.int .u8 0)), .agg (Array.replicate 33 (.int .u8 0)), .slice none 0 0] 8 rfl (World.shaped_of_RefB (by kernel_rfl) (by kernel_rfl)) (by kernel_rfl) (by kernel_rfl) (by kernel_rfl) (door_met os _)) ?_
  · match ds, h with
    | [_, _, _, _], _ => rfl
  · intro W base args ds ps ht hw0 hval hA hlt
    rw [Tryd.params4] at hA hval
    obtain ⟨v0, vs0, d0, ds0, p0, q0, hargs, rfl, rfl, h0, r0⟩ := trodAll_cons hA
    obtain ⟨v1, vs1, d1, ds1, p1, q1, rfl, rfl, rfl, h1, r1⟩ := trodAll_cons r0
    obtain ⟨v2, vs2, d2, ds2, p2, q2, rfl, rfl, rfl, h2, r2⟩ := trodAll_cons r1
    obtain ⟨v3, vs3, d3, ds3, p3, q3, rfl, rfl, rfl, h3, r3⟩ := trodAll_cons r2
    obtain ⟨rfl, rfl, rfl⟩ := trodAll_nil r3
    obtain rfl : args = #[v0, v1, v2, v3] := by cases args; simp_all
    obtain ⟨a0, rfl, rfl, rfl, w0⟩ := open_int Tryd.underlying3 (hval 0 3 v0 rfl rfl) h0
    have hb0 := bounds_i64 w0
    obtain ⟨k1, rfl, kl1, ks1⟩ := open_sum (hval 1 28 v1 rfl rfl) h1
    obtain ⟨k2, rfl, kl2, ks2⟩ := open_share (hval 2 31 v2 rfl rfl) h2
    obtain ⟨A3, L3, n3, cap3, rfl, hc3, hm3, hL3, hl3, hr3⟩ := open_shares (hval 3 38 v3 rfl rfl) h3
    exact few_c a0 k1 k2 L3 A3 n3 cap3 W kl1 ks1 kl2 ks2 hb0.1 hb0.2 hc3 hm3 hl3 ⟨hL3, hr3⟩ ⟨ht, hw0⟩
theorem keeperFew_row : Rows.KeeperFewSaid :=
  OpenClaim.holds_of_wide 4 Tryd.f4 rfl rfl rfl rfl rfl rfl rfl ⟨rfl, rfl, rfl, rfl, rfl⟩ rfl rfl rfl rfl rfl (by kernel_rfl) Tryd.func4 (by kernel_rfl)
    (of_decide_eq_true (by kernel_rfl)) (by unfold Func.isWrapper; rw [if_neg (by decide +kernel)]; exact ⟨rfl, rfl⟩)
    (fun os started H enc _ => keeperFew_lifted os started H enc)
theorem keeperFew_holds : Rows.KeeperFewCardSaid :=
  Claim7.holds_tied_plain_at .later [] [.data] true (true, "b8bb873c51d1ca2d5d4f004911b30f22941cb5f848fd8f695fb7fd769e264304") false
    keeperFew_row (fun _ h => by cases h) (by kernel_rfl) (fun _ h => by cases h) keeperFew_row_tie rfl ⟨rfl, rfl⟩ (by kernel_rfl) rfl
    (fun f fn hf hfn => by
      obtain rfl : f = 4 := Option.some.inj ((show Tryd.prog.funcNamed "quaestor/quaestorlaw30.KeeperFew" = some 4 by kernel_rfl).symm.trans hf) |>.symm
      obtain rfl : fn = Tryd.f4 := (Option.some.inj (Tryd.func4.symm.trans hfn)).symm
      exact ⟨by kernel_rfl, fun j t ht => by
        rw [Tryd.params4] at ht
        have hm : t ∈ [3, 28, 31, 38] := by simpa using Array.mem_of_getElem? ht
        have hall : ([3, 28, 31, 38].all fun u => !Tryd.prog.wantsStandIn u) = true := by kernel_rfl
        exact (show Tryd.prog.wantsStandIn t = false by simpa using List.all_eq_true.1 hall t hm)⟩)
    (by kernel_rfl)
#print axioms keeperFew_holds
end Go.Proofs.YtdbfikcpaionbaaDoor
