/- The document's block: plain; a word; rows of words of the call's own. -/
import Derived.Test.YtfblpkjablgafaaDoorCb1
import Derived.Test.YtfblpkjablgafaaDoorCb0
import Derived.Test.YtfblpkjablgafaaDoorCaM
namespace Go.Proofs.YtfblpkjablgafaaDoor
open Go.RowKit
set_option linter.unusedVariables false
set_option linter.unusedSimpArgs false
theorem wordInfo : (Tryd.prog.info? 47).map (fun i => (i.zero, i.size, i.bytes)) = some (some (.int .u32 0), 1, 4) := by kernel_rfl
def OwnW (w : World) (base : Nat) (v : Value) (l : List Nat) : Prop := w.ownsRow base 47 1 v l.length (w32 l)
theorem OwnW.nil_ (w : World) (base : Nat) : OwnW w base (.slice none 0 0) [] := ⟨rfl, .inl ⟨rfl, rfl⟩⟩
theorem OwnW.rd {w : World} {base : Nat} {v : Value} {l : List Nat} (h : OwnW w base v l) : ∃ A cap, v = .slice A l.length cap ∧ l.length ≤ cap ∧ cap ≤ maxLen ∧ Rd w w.heap.size A (w32 l) := own_rd h
theorem OwnW.alloc {w : World} {base : Nat} {v : Value} {l : List Nat} (h : OwnW w base v l) (o : Obj) : OwnW (w.alloc o) base v l := World.ownsRow.alloc h o
theorem OwnW.drewN {w : World} {base : Nat} {v : Value} {l : List Nat} (h : OwnW w base v l) (n : Nat) : OwnW (w.drewN n) base v l := h
theorem OwnW.snoc {w w' : World} {base : Nat} {v v' : Value} {l : List Nat} {c : Nat} (h : Apped w base 47 1 v w' v' (l.length + 1) (w32 l ++ [.int .u32 (c : Int)])) : OwnW w' base v' (l ++ [c]) := by
  have := h.own
  simpa [OwnW, w32] using this
theorem w32_one (l : List Nat) : ∀ u ∈ w32 l, u.oneCell' = true := by
  intro u hu
  obtain ⟨n, _, rfl⟩ := List.mem_map.1 hu
  rfl
theorem w32_at {l : List Nat} {i : Nat} (h : i < l.length) : (w32 l)[i]? = some (.int .u32 (l.getD i 0 : Nat)) := by
  simp [w32, List.getD_eq_getElem?_getD, h]
theorem Rd.wordAt {w : World} {B : Nat} {A : Option Addr} {l : List Nat} (h : Rd w B A (w32 l)) (hn : 0 < l.length) :
    ∃ ad, A = some ad ∧ ad.block < B ∧ ∀ k, k < l.length → w.cell? (ad.add k) = some (.int .u32 (l.getD k 0 : Nat)) := by
  obtain ⟨ad, e, hb, hc⟩ := h (fun h0 => by have := w32_len l; rw [h0] at this; simp at this; omega)
  exact ⟨ad, e, hb, fun k hk => hc k _ (w32_at hk)⟩
theorem rd_oneW (w : World) (v : Value) : Rd (w.alloc (.cells #[v] 47)) (w.heap.size + 1) (some ⟨w.heap.size, 0, none⟩) [v] := rd_new w [v] _ (0, 0)
theorem OwnW.next {w w' : World} {base : Nat} {v : Value} {l : List Nat} (h : OwnW w base v l) (hb : Below w.heap.size w w') : OwnW w' base v l := own_keep (S := fun _ => False) h (Only.of_below hb) (fun _ _ h => h)
theorem Rd.drop_ {w : World} {B : Nat} {ad : Addr} {l : List Nat} (h : Rd w B (some ad) (byt l)) (k : Nat) : Rd w B (some (ad.add k)) (byt (l.drop k)) := fun hn => by
  have e : byt (l.drop k) = (byt l).drop k := by simp [byt, List.map_drop]
  obtain ⟨a1, e1, hb, hc⟩ := h (fun h0 => hn (by rw [e, h0]; simp))
  injection e1 with e1
  subst e1
  refine ⟨_, rfl, by rw [add_block]; exact hb, fun j u hu => ?_⟩
  rw [Addr.add_add]
  rw [e, List.getElem?_drop] at hu
  exact hc _ u hu
theorem Rd.take_ {w : World} {B : Nat} {A : Option Addr} {l : List Nat} (h : Rd w B A (byt l)) (n : Nat) : Rd w B A (byt (l.take n)) := fun hn => by
  obtain ⟨ad, e, hb, hc⟩ := h (fun h0 => hn (by
    have : l = [] := List.eq_nil_of_length_eq_zero (by rw [← byt_len l, h0]; rfl)
    rw [this]; simp [byt]))
  refine ⟨ad, e, hb, fun j u hu => hc j u ?_⟩
  have e2 : byt (l.take n) = (byt l).take n := by simp [byt, List.map_take]
  rw [e2, List.getElem?_take] at hu
  split at hu
  · exact hu
  · cases hu
def expL : List Nat := [101, 120, 112, 97, 110, 100, 32, 51, 50, 45, 98, 121, 116, 101, 32, 107]
def fullB (k : List Nat) (n : Nat) (nonce : List Nat) : List Nat := ((expL ++ k) ++ form n 4) ++ nonce
theorem fullB_len {k nonce : List Nat} {n : Nat} (hk : k.length = 32) (hc : nonce.length = 12) : (fullB k n nonce).length = 64 := by
  simp only [fullB, List.length_append, hk, hc, form_len]; rfl
theorem fullB_lt {k nonce : List Nat} {n : Nat} (hk : ∀ c ∈ k, c < 256) (hc : ∀ c ∈ nonce, c < 256) : ∀ c ∈ fullB k n nonce, c < 256 := fun c h => by
  rcases List.mem_append.1 h with h | h
  · rcases List.mem_append.1 h with h | h
    · rcases List.mem_append.1 h with h | h
      · exact (show ∀ c ∈ expL, c < 256 by decide) c h
      · exact hk c h
    · exact form_lt _ _ c h
  · exact hc c h
theorem le4_right (a b : List Nat) (j : Nat) (h : a.length ≤ j) : le4 ((a ++ b).drop j) = le4 (b.drop (j - a.length)) := by
  rw [List.drop_append, List.drop_eq_nil_of_le h, List.nil_append]
theorem le4_left (a b : List Nat) (j : Nat) (h : j + 4 ≤ a.length) : le4 ((a ++ b).drop j) = le4 (a.drop j) := by
  unfold le4
  rw [List.drop_append, List.take_append_of_le_length (by rw [List.length_drop]; omega)]
def wordAt (k : List Nat) (n : Nat) (nonce : List Nat) (i : Nat) : Nat := le4 ((fullB k n nonce).drop (4 * i))
theorem words_eq (k : List Nat) (n : Nat) (nonce : List Nat) (hk : k.length = 32) (hn : n < 4294967296) : (List.range 16).map (wordAt k n nonce) = startL k n nonce := by
  have l1 : (expL ++ k).length = 48 := by rw [List.length_append, hk]; rfl
  have l2 : ((expL ++ k) ++ form n 4).length = 52 := by rw [List.length_append, l1, form_len]
  have c0 : ∀ i, i < 4 → wordAt k n nonce i = le4 (expL.drop (4 * i)) := fun i hi => by
    unfold wordAt fullB
    rw [le4_left _ _ _ (by rw [l2]; omega), le4_left _ _ _ (by rw [l1]; omega), le4_left _ _ _ (by show _ ≤ 16; omega)]
  have c1 : ∀ i, 4 ≤ i → i < 12 → wordAt k n nonce i = le4 (k.drop (4 * i - 16)) := fun i h1 hi => by
    unfold wordAt fullB
    rw [le4_left _ _ _ (by rw [l2]; omega), le4_left _ _ _ (by rw [l1]; omega), le4_right _ _ _ (by show 16 ≤ _; omega)]
    rfl
  have c2 : wordAt k n nonce 12 = n := by
    unfold wordAt fullB
    rw [le4_left _ _ _ (by rw [l2]; decide), le4_right _ _ _ (by rw [l1]; decide), l1]
    show number (((form n 4).drop 0).take 4) = n
    rw [List.drop_zero, List.take_of_length_le (by rw [form_len]; decide)]
    exact number_form n 4 hn
  have c3 : ∀ i, 13 ≤ i → i < 16 → wordAt k n nonce i = le4 (nonce.drop (4 * i - 52)) := fun i h1 hi => by
    unfold wordAt fullB
    rw [le4_right _ _ _ (by rw [l2]; omega), l2]
  rw [startL_eq]
  show [wordAt k n nonce 0, wordAt k n nonce 1, wordAt k n nonce 2, wordAt k n nonce 3, wordAt k n nonce 4, wordAt k n nonce 5, wordAt k n nonce 6, wordAt k n nonce 7, wordAt k n nonce 8, wordAt k n nonce 9, wordAt k n nonce 10, wordAt k n nonce 11, wordAt k n nonce 12, wordAt k n nonce 13, wordAt k n nonce 14, wordAt k n nonce 15] = _
  rw [c0 0 (by decide), c0 1 (by decide), c0 2 (by decide), c0 3 (by decide), c1 4 (by decide) (by decide), c1 5 (by decide) (by decide), c1 6 (by decide) (by decide), c1 7 (by decide) (by decide), c1 8 (by decide) (by decide), c1 9 (by decide) (by decide), c1 10 (by decide) (by decide), c1 11 (by decide) (by decide), c2, c3 13 (by decide) (by decide), c3 14 (by decide) (by decide), c3 15 (by decide) (by decide)]
  rfl
theorem out_step (us fr : List Nat) (i : Nat) : (List.range (4 * (i + 1))).map (outB us fr) = (List.range (4 * i)).map (outB us fr) ++ form ((us.getD i 0 + fr.getD i 0) % 4294967296) 4 := by
  have e : ∀ r, r < 4 → outB us fr (4 * i + r) = (us.getD i 0 + fr.getD i 0) % 4294967296 / 256 ^ r % 256 := fun r hr => by
    unfold outB
    rw [show (4 * i + r) / 4 = i by omega, show (4 * i + r) % 4 = r by omega]
  rw [show 4 * (i + 1) = 4 * i + 3 + 1 by omega, List.range_succ, List.range_succ, List.range_succ, List.range_succ]
  simp only [List.map_append, List.map_cons, List.map_nil, List.append_assoc, List.cons_append, List.nil_append]
  rw [show outB us fr (4 * i) = _ from e 0 (by decide), e 1 (by decide), e 2 (by decide), e 3 (by decide)]
  simp only [form, Nat.div_div_eq_div_mul, Nat.pow_zero, Nat.div_one, Nat.reducePow, Nat.reduceMul]
/-- two rows of words of the call's own, apart -/
structure Two (w : World) (base : Nat) (vx vy : Value) (xs ys : List Nat) : Prop where
  ox : OwnW w base vx xs
  oy : OwnW w base vy ys
  ne : ∀ g, vx.ownBlock = some g → vy.ownBlock ≠ some g
theorem Two.next {w w' : World} {base : Nat} {vx vy : Value} {xs ys : List Nat} (h : Two w base vx vy xs ys) (hb : Below w.heap.size w w') : Two w' base vx vy xs ys := ⟨h.ox.next hb, h.oy.next hb, h.ne⟩
theorem Two.symm {w : World} {base : Nat} {vx vy : Value} {xs ys : List Nat} (h : Two w base vx vy xs ys) : Two w base vy vx ys xs := ⟨h.oy, h.ox, fun g h1 h2 => h.ne g h2 h1⟩
theorem Two.app {w w' : World} {base : Nat} {vx vy v' : Value} {xs ys : List Nat} {c : Nat} (h : Two w base vx vy xs ys) (hap : Apped w base 47 1 vx w' v' (xs.length + 1) (w32 xs ++ [.int .u32 (c : Int)])) : Two w' base v' vy (xs ++ [c]) ys :=
  ⟨OwnW.snoc hap, own_keep h.oy (hap.only (S := fun k => vx.ownBlock = some k) (fun g hg => hg)) (fun g hg hs => h.ne g hs hg), fun g h1 h2 => by
    rcases hap.lies with e | e
    · rw [e] at h1; exact h.ne g h1 h2
    · rw [e] at h1
      injection h1 with h1
      have := own_lt h.oy g h2
      omega⟩
theorem OwnW.open_ {w : World} {base : Nat} {v : Value} {l : List Nat} (h : OwnW w base v l) (hne : l ≠ []) : ∃ g cap rest, v = .slice (some ⟨g, 0, none⟩) l.length cap ∧ base ≤ g ∧ Blk w g 47 (vx l rest) ∧ l.length ≤ cap ∧ cap ≤ maxLen ∧ rest.length + l.length = cap := by
  rcases h.2 with ⟨_, h0⟩ | ⟨g, cap, cur, rfl, hb, hh, hn, hm, hc, ht⟩
  · exact absurd (List.eq_nil_of_length_eq_zero h0) hne
  · refine ⟨g, cap, cur.toList.drop l.length, rfl, hb, ?_, hn, hm, ?_⟩
    · rw [Nat.mul_one] at ht
      unfold Blk vx
      rw [hh, ← ht, List.take_append_drop]
    · rw [List.length_drop, Array.length_toList, hc]; omega
set_option maxRecDepth 100000 in
set_option maxHeartbeats 1000000 in
theorem rword_c (B : Nat) (ad : Addr) (N ca : Nat) (l : List Nat) (w : World) (hl : ∀ c ∈ l, c < 256) (hr : Rd w B (some ad) (byt l)) (h4 : 4 ≤ l.length) (hn : N = l.length) (hca : 4 ≤ ca) :
    Calls Tryd.prog 30 #[.slice (some ad) N ca] w fun e w' => e = .returned (.int .u32 (le4 l : Nat)) ∧ w = w' := by
  have hlen : (l.take 4).length = 4 := by rw [List.length_take]; omega
  have h := rnumber_c B (some ad) ca (l.take 4) w (hr.take_ 4) (fun c hc => hl c (List.mem_of_mem_take hc)) (by omega)
  rw [hlen] at h
  have HN := Lib.hid h
  have hv := le4_lt hl
  have HE := Lib.hid (show le4 l = number (l.take 4) from rfl)
  rw [HE.out] at hv ⊢
  clear HE h hl hr
  generalize number (l.take 4) = v at *
  have f0 : IntKind.u32.wrap (v : Int) = (v : Int) := by rw [wrap32]; omega
  have p1 : (4 : Int) ≤ (ca : Int) := by omega
  go_enter Tryd.func30, Tryd.ntmps30
  go_wp2_with (go_at_call 47; (refine HN.out.mono ?_); rintro e w1 ⟨rfl, rfl⟩)
  refine bodyPost_ret (results_tmp rfl _ _ _) rfl ?_
  exact ⟨rfl, rfl⟩
end Go.Proofs.YtfblpkjablgafaaDoor
