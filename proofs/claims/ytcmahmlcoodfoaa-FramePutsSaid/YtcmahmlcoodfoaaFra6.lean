/- What any bytes are read as: the plain side; the frame's cells set. -/
import Derived.Test.YtcmahmlcoodfoaaFra5
import Derived.Laws.CopyOwn
namespace Go.Proofs.Ytcmahmlcoodfoaa
open Go.RowKit Go.Great
set_option linter.unusedVariables false
def numAt (l : List Nat) (a n : Nat) : Nat := number ((l.drop a).take n)
def fr0 (l : List Nat) : Fr := ⟨l.getD 0 0, numAt l 1 2, numAt l 3 2, numAt l 5 8, 0, 0, z32, z12, []⟩
def frH (l : List Nat) : Fr := ⟨l.getD 0 0, numAt l 1 2, numAt l 3 2, numAt l 5 8, numAt l 13 8, numAt l 21 8, (l.drop 29).take 32, z12, []⟩
def frD (l : List Nat) : Fr := ⟨l.getD 0 0, numAt l 1 2, numAt l 3 2, numAt l 5 8, 0, 0, z32, (l.drop 13).take 12, l.drop 25⟩
def getF (l : List Nat) : Fr × Nat :=
  if l.length < 13 then (zFr, 2)
  else if (l.getD 0 0 = 72 ∧ l.length < 61) ∨ (l.getD 0 0 = 68 ∧ l.length < 41) then (zFr, 2)
  else if l.getD 0 0 = 72 ∧ l.length = 61 then (if ckF (frH l) then (frH l, 0) else (zFr, 4))
  else if l.getD 0 0 = 68 then (if ckF (frD l) then (frD l, 0) else (zFr, 4))
  else (zFr, 4)
theorem take_lt {l : List Nat} (h : ∀ c ∈ l, c < 256) (k : Nat) : ∀ c ∈ l.take k, c < 256 := fun c hc => h c (List.mem_of_mem_take hc)
theorem numAt_lt {l : List Nat} (h : ∀ c ∈ l, c < 256) (a n : Nat) (N : Nat) (hN : 256 ^ n ≤ N) : numAt l a n < N := by
  have h1 := number_lt _ (take_lt (drop_lt h a) n)
  have h2 : 256 ^ ((l.drop a).take n).length ≤ 256 ^ n := Nat.pow_le_pow_right (by decide) (by rw [List.length_take]; exact Nat.min_le_left _ _)
  unfold numAt; omega
theorem fr0_ok {l : List Nat} (h : ∀ c ∈ l, c < 256) : FrOk (fr0 l) :=
  ⟨getD_lt h 0, numAt_lt h _ _ _ (by decide), numAt_lt h _ _ _ (by decide), numAt_lt h _ _ _ (by decide), by simp [fr0], by simp [fr0], z32_len, z12_len, z32_lt, z12_lt, by intro c hc; cases hc⟩
theorem frH_ok {l : List Nat} (h : ∀ c ∈ l, c < 256) (hl : 61 ≤ l.length) : FrOk (frH l) :=
  ⟨getD_lt h 0, numAt_lt h _ _ _ (by decide), numAt_lt h _ _ _ (by decide), numAt_lt h _ _ _ (by decide), numAt_lt h _ _ _ (by decide), numAt_lt h _ _ _ (by decide), by simp [frH]; omega, z12_len, take_lt (drop_lt h _) _, z12_lt, by intro c hc; cases hc⟩
theorem frD_ok {l : List Nat} (h : ∀ c ∈ l, c < 256) (hl : 25 ≤ l.length) : FrOk (frD l) :=
  ⟨getD_lt h 0, numAt_lt h _ _ _ (by decide), numAt_lt h _ _ _ (by decide), numAt_lt h _ _ _ (by decide), by simp [frD], by simp [frD], z32_len, by simp [frD]; omega, z32_lt, take_lt (drop_lt h _) _, drop_lt h _⟩
/-! the cells set -/
theorem frV_set4 (x : Fr) (v : Value) (b : Nat) : (frV x v).setIfInBounds 4 (.int .u64 (b : Nat)) = frV { x with b := b } v := by simp [frV, frL]
theorem frV_set5 (x : Fr) (v : Value) (b : Nat) : (frV x v).setIfInBounds 5 (.int .u64 (b : Nat)) = frV { x with o := b } v := by simp [frV, frL]
theorem splice_mid {α : Type} (a b b' c : List α) (h : b'.length = b.length) : splice (a ++ (b ++ c)) a.length b' = a ++ (b' ++ c) := by
  unfold splice
  rw [List.take_left', show (a ++ (b ++ c)).drop (a.length + b'.length) = c from by rw [← List.append_assoc, h, ← List.length_append, List.drop_left']; rfl]
  rfl
theorem frL_p_set (x : Fr) (v : Value) (p : List Nat) (h : p.length = x.p.length) : splice (frL x v) 6 (byt p) = frL { x with p := p } v := by
  unfold frL
  exact splice_mid [.int .u8 (x.k : Nat), .int .u16 (x.f : Nat), .int .u16 (x.t : Nat), .int .u64 (x.i : Nat), .int .u64 (x.b : Nat), .int .u64 (x.o : Nat)] (byt x.p) (byt p) _ (by rw [byt_len, byt_len, h])
theorem frL_n_set {x : Fr} (hx : FrOk x) (v : Value) (n : List Nat) (h : n.length = x.n.length) : splice (frL x v) 38 (byt n) = frL { x with n := n } v := by
  have e : ∀ y : Fr, frL y v = ([.int .u8 (y.k : Nat), .int .u16 (y.f : Nat), .int .u16 (y.t : Nat), .int .u64 (y.i : Nat), .int .u64 (y.b : Nat), .int .u64 (y.o : Nat)] ++ byt y.p) ++ (byt y.n ++ [v]) := fun y => by simp [frL]
  rw [e x, e { x with n := n }]
  have h2 := splice_mid ([.int .u8 (x.k : Nat), .int .u16 (x.f : Nat), .int .u16 (x.t : Nat), .int .u64 (x.i : Nat), .int .u64 (x.b : Nat), .int .u64 (x.o : Nat)] ++ byt x.p) (byt x.n) (byt n) [v] (by rw [byt_len, byt_len, h])
  rw [show ([Value.int .u8 (x.k : Nat), .int .u16 (x.f : Nat), .int .u16 (x.t : Nat), .int .u64 (x.i : Nat), .int .u64 (x.b : Nat), .int .u64 (x.o : Nat)] ++ byt x.p).length = 38 by simp [byt_len, hx.p]] at h2
  exact h2
theorem frV_set50 {x : Fr} (hx : FrOk x) (v u : Value) (d : List Nat) : (frV x v).setIfInBounds 50 u = frV { x with d := d } u := by
  unfold frV frL
  rw [List.setIfInBounds_toArray]
  congr 1
  rw [List.set_append_right _ _ (by simp), List.set_append_right _ _ (by simp [byt_len, hx.p]), List.set_append_right _ _ (by simp [byt_len, hx.p, hx.n])]
  simp [byt_len, hx.p, hx.n]
theorem frV_one (x : Fr) (A : Option Addr) (n c : Nat) : (frV x (.slice A n c)).all (·.oneCell') = true := by
  rw [Array.all_eq_true_iff_forall_mem]
  intro v hv
  simp only [frV, frL, List.mem_toArray, List.mem_append] at hv
  rcases hv with hv | hv | hv | hv
  · simp only [List.mem_cons, List.not_mem_nil, or_false] at hv
    rcases hv with rfl | rfl | rfl | rfl | rfl | rfl <;> rfl
  · exact byt_one _ v hv
  · exact byt_one _ v hv
  · simp only [List.mem_singleton] at hv; subst hv; rfl
/-- no frame -/
def zF : Array Value := frV zFr (.slice none 0 0)
theorem zero_frame (w : World) : (zeroValue 43).run Try.prog w = .ok (.agg zF) w := by kernel_rfl
theorem built_f : Try.prog.built 43 [] = some zF := by kernel_rfl
theorem zF_size : (Try.prog.info? 43).map (·.size) = some zF.size := by kernel_rfl
theorem zF_fin (w : World) : Fin w zFr (.slice none 0 0) := ⟨zFr_ok, by decide, none, 0, rfl, by decide, Rd.nil_ _ _ _⟩
theorem Rd.drop_ {w : World} {B : Nat} {ad : Addr} {l : List Nat} (h : Rd w B (some ad) (byt l)) (k : Nat) : Rd w B (some (ad.add k)) (byt (l.drop k)) := fun hn => by
  have e : byt (l.drop k) = (byt l).drop k := by simp [byt, List.map_drop]
  obtain ⟨a1, e1, hb, hc⟩ := h (fun h0 => hn (by rw [e, h0]; simp))
  injection e1 with e1
  subst e1
  refine ⟨_, rfl, by rw [add_block]; exact hb, fun j u hu => ?_⟩
  rw [Addr.add_add]
  rw [e, List.getElem?_drop] at hu
  exact hc _ u hu
theorem getAt (B : Nat) (A : Option Addr) (ca : Nat) (l : List Nat) (a n len : Nat) (w : World) (hr : Rd w B A (byt (l.drop a))) (hl : ∀ c ∈ l, c < 256) (hlen : l.length ≤ 1000000) (hn : 1 ≤ n) (hn8 : n ≤ 8) (hla : len + a = l.length) (hfit : n ≤ len) :
    Calls Try.prog 31 #[.slice A len ca, .int .i64 n] w fun e w' => e = .returned (.tuple #[.int .u64 (numAt l a n : Nat), .int .i64 0]) ∧ w = w' := by
  have hL : (l.drop a).length = len := by rw [List.length_drop]; omega
  have h := get_c B A ca (l.drop a) n w hr (drop_lt hl a) (by omega) (by omega) (by omega)
  have hE : getErr (l.drop a).length (n : Int) = 0 := by
    unfold getErr; rw [hL, if_neg (by omega), if_neg (by omega)]
  have hN : getNum (l.drop a) (n : Int) = numAt l a n := by
    unfold getNum numAt; rw [hE, if_pos rfl, Int.toNat_natCast]
  rw [hE, hN, hL] at h
  exact h
theorem wrap16_u (n : Nat) (h : n < 65536) : IntKind.u16.wrap (n : Int) = (n : Int) := by simp [IntKind.wrap, IntKind.signed, IntKind.bits]; omega
theorem Blk.row {w : World} {g : Nat} {t : TypeId} {old cs : Array Value} (h : Blk w g t old) : Blk (w.setRow g cs) g t cs := setRow_heap w g old cs t (0, 0) h
theorem Blk.rowFar {w : World} {g k : Nat} {t : TypeId} {cs ds : Array Value} (h : Blk w k t cs) (hk : k ≠ g) : Blk (w.setRow g ds) k t cs := (setRow_other w g k ds hk).trans h
theorem built_4 (k f t i : Nat) : Try.prog.built 43 [(0, .int .u8 (k : Nat)), (1, .int .u16 (f : Nat)), (2, .int .u16 (t : Nat)), (3, .int .u64 (i : Nat))] = some (frV ⟨k, f, t, i, 0, 0, z32, z12, []⟩ (.slice none 0 0)) := by kernel_rfl
theorem sizeF (X : Fr) (v : Value) (h : FrOk X) : (Try.prog.info? 43).map (·.size) = some (frV X v).size := by rw [frV_size h]; kernel_rfl
/-- the two frames of a Get: the answer's, the one in work -/
structure TwoF (w W1 : World) (G : Nat) (X : Fr) (v : Value) : Prop where
  bel : Below w.heap.size w W1
  lt : w.heap.size < G
  out : Blk W1 w.heap.size 43 zF
  work : Blk W1 G 43 (frV X v)
theorem TwoF.set {w W1 : World} {G : Nat} {X Y : Fr} {v u : Value} (h : TwoF w W1 G X v) (i : Nat) (x : Value) (e : (frV X v).setIfInBounds i x = frV Y u) : TwoF w (W1.setCell ⟨G, i, none⟩ x) G Y u :=
  ⟨h.bel.trans ⟨rfl, rfl, rfl, by rw [heapSize_set]; exact Nat.le_refl _, fun k hk => Below.heap_setCell _ _ _ _ (by have := h.lt; simp; omega)⟩, h.lt, h.out.far (p := ⟨G, i, none⟩) (by have := h.lt; simp; omega) x, by rw [← e]; exact h.work.set_ i x⟩
theorem TwoF.next {w W1 W2 : World} {G : Nat} {X : Fr} {v : Value} (h : TwoF w W1 G X v) (hb : Below W1.heap.size W1 W2) : TwoF w W2 G X v :=
  ⟨h.bel.trans (hb.mono h.bel.size), h.lt, h.out.below hb h.out.lt, h.work.below hb h.work.lt⟩
theorem TwoF.drew {w W1 : World} {G : Nat} {X : Fr} {v : Value} (h : TwoF w W1 G X v) : TwoF w W1.drew G X v := h.next (Below.refl _ _).drew
end Go.Proofs.Ytcmahmlcoodfoaa
