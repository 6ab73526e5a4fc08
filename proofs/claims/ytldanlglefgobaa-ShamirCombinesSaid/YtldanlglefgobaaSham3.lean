/- Contract: Split. -/
import Derived.Test.YtldanlglefgobaaSham2
namespace Go.Proofs.Ytldanlglefgobaa
open Go.RowKit
set_option linter.unusedVariables false
theorem shInfo : (Try.prog.info? 48).map (fun i => (i.zero, i.size, i.bytes)) = some (some (.agg z33), 33, 33) := by kernel_rfl
section
variable {P : Program}
theorem wpList_buildOne {ops : Array Oper} {rest : List Oper} {o : Oper} {a : Act} {w : World} {Q : Exit → Act → World → Prop} (hg : o.guard = none) (t e : TypeId) (x : Operand) (ho : o.op = .buildSlice t 1 #[(0, x)])
    (cs : Array Value) (hx : a.eval x = .agg cs) (ie : TypeInfo) (z : Value) (size : Nat)
    (hu : P.underlying t = some (.slice e)) (hie : P.info? e = some ie) (hz : ie.zero = some z) (hs : ie.size = size) (hcs : cs.size = size) (hpos : 0 < size) (hsmall : size ≤ 2 ^ 24)
    (h : wpList P ops Q rest (a.put o.dst (.slice (some ⟨w.heap.size, 0, none⟩) 1 1)) (w.alloc (.cells cs e))) : wpList P ops Q (o :: rest) a w := by
  refine wpList_buildSlice hg t e 1 #[(0, x)] ho cs ie z hu hie hz (by rw [hs]; omega) (by rw [hs]; omega) ?_ h
  have h1 := Great.fill_whole (s := size) hpos [.agg cs] ((Array.range (1 * size)).map (z.cells[· % z.cells.size]!)) (fun v hv => by
    rw [List.mem_singleton.1 hv]; exact hcs) (by simp)
  rw [hs]
  have e1 : (#[(0, x)].map fun (p : Nat × Operand) => (p.1, a.eval p.2)).toList = (([Value.agg cs].zipIdx 0).map fun x => (x.2, x.1)) := by
    simp [hx]
  refine (congrArg _ e1).trans (h1.trans ?_)
  simp [Value.cells]
end
/-- shares in a row -/
def shf (s d : List Nat) (t n : Nat) : List Nat := (List.range n).flatMap fun i => shr s d t (i + 1)
theorem shf_succ (s d : List Nat) (t n : Nat) : shf s d t (n + 1) = shf s d t n ++ shr s d t (n + 1) := by simp [shf, List.range_succ]
theorem shf_len (s d : List Nat) (t n : Nat) : (shf s d t n).length = n * 33 := by
  induction n with
  | zero => rfl
  | succ n ih => rw [shf_succ, List.length_append, ih, shr_len]; omega
theorem own_base_le {w : World} {base base' : Nat} {e : TypeId} {size n : Nat} {v : Value} {xs : List Value} (h : w.ownsRow base e size v n xs) (hb : base' ≤ base) : w.ownsRow base' e size v n xs := by
  refine ⟨h.1, ?_⟩
  rcases h.2 with h0 | ⟨g, cap, cur, h1, h2, h3⟩
  · exact .inl h0
  · exact .inr ⟨g, cap, cur, h1, Nat.le_trans hb h2, h3⟩
/-- shares in a row of the call's own -/
def OwnS (w : World) (base : Nat) (v : Value) (n : Nat) (l : List Nat) : Prop := w.ownsRow base 48 33 v n (byt l)
theorem OwnS.nil_ (w : World) (base : Nat) : OwnS w base (.slice none 0 0) 0 [] := ⟨rfl, .inl ⟨rfl, rfl⟩⟩
def GivesS (n : Nat) (l : List Nat) (er : Int) (w : World) (e : Ending) (w' : World) : Prop := ∃ v, e = .returned (.tuple #[v, .int .i64 er]) ∧ OwnS w' w.heap.size v n l ∧ Below w.heap.size w w'
set_option maxRecDepth 100000 in
set_option maxHeartbeats 1000000 in
theorem split_bad (s d : List Nat) (n t : Int) (cap : Nat) (A : Option Addr) (w : World) (h : t < 1 ∨ n < t ∨ 255 < n) :
    Calls Try.prog 24 #[.agg (vb s), .int .i64 n, .int .i64 t, .slice A d.length cap] w (GivesS 0 [] 1 w) := by
  have hcase : decide (t < 1) = true ∨ (decide (t < 1) = false ∧ decide (n < t) = true) ∨ (decide (t < 1) = false ∧ decide (n < t) = false ∧ decide (255 < n) = true) := by
    by_cases h1 : t < 1
    · exact .inl (decide_eq_true h1)
    · by_cases h2 : n < t
      · exact .inr (.inl ⟨decide_eq_false h1, decide_eq_true h2⟩)
      · exact .inr (.inr ⟨decide_eq_false h1, decide_eq_false h2, decide_eq_true (by omega)⟩)
  clear h
  rcases hcase with h1 | ⟨h1, h2⟩ | ⟨h1, h2, h3⟩
  all_goals
    go_enter Try.func24, Try.ntmps24
    go_wp2
    go_ret2
    exact ⟨_, rfl, OwnS.nil_ _ _, (Below.refl _ _).alloc (Nat.le_refl _) _⟩
set_option maxRecDepth 100000 in
set_option maxHeartbeats 2000000 in
theorem split_c (s d : List Nat) (n t cap : Nat) (A : Option Addr) (w : World) (hs : s.length = 32) (hsl : ∀ c ∈ s, c < 256) (hd : ∀ c ∈ d, c < 256)
    (h1 : 1 ≤ t) (h2 : t ≤ n) (h3 : n ≤ 255) (hr : Rd w w.heap.size A (byt d)) (hlen : d.length ≤ 1000000) :
    Calls Try.prog 24 #[.agg (vb s), .int .i64 n, .int .i64 t, .slice A d.length cap] w (GivesS n (shf s d t n) 0 w) := by
  obtain ⟨i0, hi0, hz0, hz1, hz2⟩ := info_parts shInfo
  have HSL := Lib.hid hsl
  have HD := Lib.hid hd
  have HR := Lib.hid hr
  have t1 : decide ((t : Int) < 1) = false := decide_eq_false (by omega)
  have t2 : decide ((n : Int) < (t : Int)) = false := decide_eq_false (by omega)
  have t2n : decide (n < t) = false := decide_eq_false (by omega)
  have t3 : decide (255 < (n : Int)) = false := decide_eq_false (by omega)
  have H123 := Lib.hid (And.intro h1 (And.intro h2 h3))
  clear hsl hd hr h1 h2 h3
  go_enter Try.func24, Try.ntmps24
  go_wp2_with fail
  refine (build_c _).mono ?_
  rintro e w1 ⟨rfl, hz, htab, hb1⟩
  have hbs : Blk w1 w.heap.size 43 (vb s) := (Blk.new w _ _).below hb1 (by simp)
  have HBS := Lib.hid hbs
  have HT := Lib.hid htab
  have HB1 := Lib.hid (((Below.refl w.heap.size w).alloc (Nat.le_refl _) (.cells (vb s) 43)).trans (hb1.mono (by simp)))
  have hz' : w1.heap.size = w.heap.size + 1 + 1 := by simpa using hz
  clear hbs htab hb1 hz
  go_wp2_with fail
  rw [show (w.alloc (.cells (vb s) 43)).heap.size = w.heap.size + 1 by simp] at HT
  obtain ⟨h1, h2, h3⟩ := H123.out

  go_loopw [11, 26] (fun o i wr => ∃ k : Nat, k ≤ n ∧ i = .int .i64 k ∧ OwnS wr w1.heap.size o k (shf s d t k) ∧ Below w1.heap.size w1 wr) (fun _ i _ => n - (intOf i).toNat)
  case atStart => exact ⟨0, by omega, rfl, OwnS.nil_ _ _, Below.refl _ _⟩
  case round =>
    rename World => wr
    obtain ⟨k, hk, rfl, ho, hb⟩ := hrel
    have HO := Lib.hid ho
    have HB := Lib.hid hb
    clear ho hb
    by_cases hlt : k < n
    · have HS1 := Lib.hid (HBS.out.below HB.out HBS.out.lt)
      have HT1 := Lib.hid (HT.out.below HB.out (by omega))
      have hbw : Below w.heap.size w wr := HB1.out.trans (HB.out.mono (by omega))
      have HR1 := Lib.hid ((HR.out.below hbw).more hbw.size)
      have hsz : (Try.prog.info? 43).map (·.size) = some (vb s).size := by rw [vb_size, hs]; kernel_rfl
      have HSZ := Lib.hid hsz
      obtain ⟨K1, hK1⟩ : ∃ K1, K1 = k + 1 := ⟨_, rfl⟩
      have e1 : (k : Int) + 1 = (K1 : Int) := by omega
      have HLS := Lib.hid (shr_len s d t K1)
      have HSU := Lib.hid (show shf s d t K1 = shf s d t k ++ shr s d t K1 by rw [hK1]; exact shf_succ s d t k)
      have HVS : Hid ((vb (shr s d t K1)).size = 33) := Lib.hid (by rw [vb_size, shr_len])
      have HK1 := Lib.hid hK1
      have hK1b : K1 ≤ 255 := by omega
      clear hbw hsz hK1
      go_wp2_with (first
        | (refine wpList_load_row rfl 43 (.tmp 4) rfl w.heap.size rfl 43 _ _ _ HS1.out Try.underlying43 rfl HSZ.out ?_)
        | (go_at_call 33; ((with_reducible refine (share_c (w.heap.size + 1) s d K1 t cap A _ HT1.out hs HSL.out HD.out (by omega) (by omega) HR1.out hlen).mono ?_); rintro e w2 ⟨rfl, hb2⟩; have HB2 := Lib.hid hb2; clear hb2))
        | (refine wpList_buildOne rfl 44 48 (.tmp 37) rfl (vb (shr s d t K1)) rfl i0 (.agg z33) 33 Try.underlying44 hi0 hz0 hz1 HVS.out (by decide) (by decide) ?_)
        | (at_builtin; go_loud (refine wpList_app _ rfl (.tmp 29) (.tmp 38) _ rfl w1.heap.size 48 i0 (.agg z33) 33 33 Try.underlying44 hi0 hz0 hz1 hz2 rfl (by decide) _ _ _ rfl (own_alloc (own_keep (S := fun _ => False) HO.out (Only.of_below HB2.out) (fun _ _ h => h)) _) _ _ 1 1 (byt (shr s d t K1)) rfl (by simp [byt_len, HLS.out]) (by exact rd_new _ _ _ _) (byt_one _) (by omega) (by omega) (by exact Nat.le_trans HB.out.size (Nat.le_trans HB2.out.size (by simp))) ?_); intro v1 w3 hap))
      have ho2 : OwnS w3 w1.heap.size v1 K1 (shf s d t K1) := by
        have h := hap.own
        rw [byt_app, ← HSU.out] at h
        rw [show K1 = k + 1 from HK1.out] at h ⊢
        exact h
      have hb3 : Below w1.heap.size w1 w3 := ((HB.out.trans (HB2.out.mono HB.out.size)).alloc (Nat.le_trans HB.out.size HB2.out.size) _).trans (hap.below (own_alloc (own_keep (S := fun _ => False) HO.out (Only.of_below HB2.out) (fun _ _ h => h)) _) (by exact Nat.le_trans HB.out.size (Nat.le_trans HB2.out.size (by simp))))
      have HO2 := Lib.hid ho2
      have HB3 := Lib.hid hb3
      clear hap ho2 hb3
      go_roundw
      case rel =>
        go_light
        exact ⟨K1, by have := HK1.out; omega, rfl, HO2.out, HB3.out⟩
      case measure => have := HK1.out; simp [intOf]; omega
    · have hkn : k = n := by omega
      have ho := HO.out
      rw [hkn] at ho
      have HO2 := Lib.hid ho
      have HB3 := Lib.hid (HB1.out.trans (HB.out.mono (by omega)))
      clear ho hkn
      go_wp2_with fail
      go_ret2
      exact ⟨_, rfl, own_base_le HO2.out (by omega), HB3.out⟩
end Go.Proofs.Ytldanlglefgobaa
