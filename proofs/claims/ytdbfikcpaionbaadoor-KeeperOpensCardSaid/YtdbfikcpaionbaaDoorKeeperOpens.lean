/- KeeperOpens returns true for any master key, numbers, draws and first place. Conditions: the rounds are as the program lays them. -/
import Derived.Test.YtdbfikcpaionbaaDoorZ08
import Derived.Test.YtdbfikcpaionbaaDoorTie
import Derived.Test.YtdbfikcpaionbaaDoorCards
import Derived.SevenTiedAt
/- Handed bytes: the length is within the room, the room is no more than may be. -/
namespace Go.Proofs.YtdbfikcpaionbaaDoor
open Go.ChangeShapes Go.WideShapes Go.ChangeAt Go.RowKit
theorem cap_bytesK {H : Type} {enc : TypeId × Value → H} {W : World} {A : Option Addr} {n cap : Nat} {d : DataW H} {p : List MemPlace}
    (h : DataW.Trod enc Tryd.prog W 0 (fun _ => true) true 24 (.slice A n cap) d p) : n ≤ cap ∧ cap ≤ maxLen := by
  obtain ⟨fuel, hf⟩ := h
  rcases open_ints Tryd.underlying24 Tryd.underlying5 (by kernel_rfl) hf with ⟨hcs, _⟩ | ⟨x, l, c, zs, hcs, _, hl, hm, hz, _, hcell, hwz⟩
  · simp [Value.cells] at hcs
    obtain ⟨rfl, rfl, rfl⟩ := hcs
    exact ⟨Nat.le_refl _, Nat.zero_le _⟩
  · simp [Value.cells] at hcs
    obtain ⟨rfl, rfl, rfl⟩ := hcs
    exact ⟨hl, hm⟩
end Go.Proofs.YtdbfikcpaionbaaDoor
/- Plain: as many shares as are needed open a keeper. -/
namespace Go.Proofs.YtdbfikcpaionbaaDoor
open Go.RowKit
set_option linter.unusedVariables false
set_option linter.unusedSimpArgs false
/-- shares of one secret -/
def OfS (s d : List Nat) (t : Nat) (L : List Nat) (n : Nat) : Prop := ∀ j, j < n → ∀ k, k < 32 → shY L j k = sy s d t (shX L j) k
theorem shY_take (L : List Nat) {T j k : Nat} (hj : j < T) (hk : k < 32) : shY (L.take (T * 33)) j k = shY L j k := by
  unfold shY
  rw [List.getD_eq_getElem?_getD, List.getElem?_take_of_lt (by omega), ← List.getD_eq_getElem?_getD]
theorem shY_ins {L s : List Nat} {n i : Nat} (hL : L.length = n * 33) (hs : s.length = 33) (hi : i ≤ n) (j k : Nat) (hk : k < 32) : shY (insL L i s) j k = if j < i then shY L j k else if j = i then s.getD (1 + k) 0 else shY L (j - 1) k := by
  have hl1 : (L.take (i * 33)).length = i * 33 := by rw [List.length_take, hL]; omega
  unfold shY insL
  simp only [List.getD_eq_getElem?_getD]
  rcases Nat.lt_trichotomy j i with h | h | h
  · rw [if_pos h, List.append_assoc, List.getElem?_append_left (by omega), List.getElem?_take_of_lt (by omega)]
  · subst h
    rw [if_neg (Nat.lt_irrefl _), if_pos rfl, List.append_assoc, List.getElem?_append_right (by omega), hl1, Nat.add_sub_cancel_left, List.getElem?_append_left (by omega)]
  · rw [if_neg (by omega), if_neg (by omega), List.getElem?_append_right (by rw [List.length_append]; omega), List.length_append, hl1, hs, List.getElem?_drop]
    congr 2
    omega
theorem com_eq {s d L : List Nat} {t n : Nat} (hs : ∀ c ∈ s, c < 256) (hsl : s.length = 32) (hd : ∀ c ∈ d, c < 256) (ht : 1 ≤ t) (hn : t ≤ n) (hr : Rise L n) (ho : OfS s d t L n) : kCom L t = s := by
  have hr2 := hr.take hn
  unfold kCom
  generalize hL' : L.take (t * 33) = L' at *
  have hpl : Places (xsl L' t) := by
    refine ⟨fun x hx => ?_, ?_⟩
    · obtain ⟨j, hj, rfl⟩ := List.mem_map.1 hx
      exact ⟨shX_lt hr2.lt j, hr2.nz j (List.mem_range.1 hj)⟩
    · unfold xsl
      rw [List.nodup_iff_pairwise_ne, List.pairwise_map]
      refine List.Pairwise.imp_of_mem (R := fun a b => a < b) ?_ List.pairwise_lt_range
      intro a b ha hb hab
      have := hr2.up a b hab (List.mem_range.1 hb)
      omega
  apply List.ext_getElem
  · rw [cmbTo_len, hsl]
  · intro k h1 h2
    have hk : k < 32 := by omega
    have e1 : (cmbTo L' t t 0)[k] = (cmbTo L' t t 0).getD k 0 := by rw [List.getD_eq_getElem?_getD, List.getElem?_eq_getElem h1]; rfl
    have e2 : s[k] = s.getD k 0 := by rw [List.getD_eq_getElem?_getD, List.getElem?_eq_getElem h2]; rfl
    refine e1.trans (Eq.trans ?_ e2.symm)
    rw [cmbTo_at _ _ _ _ _ hk, if_neg (by omega), cmb_lag _ t k (fun x => sy s d t x k) (fun x => sy_lt hs hd t x k) (fun j hj => by
      rw [← hL', shY_take L hj hk, shX_take L hj]; exact ho j (by omega) k hk)]
    exact lag_sy hs hd t k ht _ hpl (by rw [xsl_len]; exact Nat.le_refl _)
/-- the place of the i-th share -/
def plN (K n i : Nat) : Nat := (K + i) % n + 1
theorem plN_ne {K n a b : Nat} (hn : 0 < n) (ha : a < n) (hb : b < n) (h : a ≠ b) : plN K n a ≠ plN K n b := by
  have h1 := mod_ne (K := K % n) (Nat.mod_lt K hn) ha hb h
  unfold plN
  rw [Nat.mod_add_mod, Nat.mod_add_mod] at h1
  omega
def shN (s d : List Nat) (t K n i : Nat) : List Nat := shr s d t (plN K n i)
theorem shN_len (s d : List Nat) (t K n i : Nat) : (shN s d t K n i).length = 33 := shr_len _ _ _ _
theorem shN_x (s d : List Nat) (t K n i : Nat) : (shN s d t K n i).getD 0 0 = plN K n i := rfl
theorem shN_y (s d : List Nat) (t K n i : Nat) {k : Nat} (hk : k < 32) : (shN s d t K n i).getD (1 + k) 0 = sy s d t (plN K n i) k := by
  unfold shN
  rw [shr, Nat.add_comm 1 k, List.getD_eq_getElem?_getD, List.getElem?_cons_succ, ← List.getD_eq_getElem?_getD, sys_at s d t _ k hk]
theorem plN_lt {K n : Nat} (i : Nat) (hn : 0 < n) (hn2 : n ≤ 200) : plN K n i < 256 := by
  have := Nat.mod_lt (K + i) hn
  unfold plN
  omega
theorem shN_lt {s d : List Nat} (hs : ∀ c ∈ s, c < 256) (hd : ∀ c ∈ d, c < 256) {t K n : Nat} (i : Nat) (hn : 0 < n) (hn2 : n ≤ 200) : ∀ c ∈ shN s d t K n i, c < 256 := shr_lt (plN_lt i hn hn2) hs hd
/-- behind the shares 1 .. i-1 (the keeper's own is the share 0) -/
def kSt (s d : List Nat) (t K n : Nat) : Nat → Kst
  | 0 => kNew t (prfL s) (shN s d t K n 0)
  | i + 1 => kOffer (kSt s d t K n i) (shN s d t K n (i + 1))
structure KSh (s d : List Nat) (t K n : Nat) (st : Kst) (i : Nat) : Prop where
  ok : KOK st
  t_ : st.t = (t : Nat)
  p : st.p = prfL s
  n_ : st.n = i + 1
  of_ : OfS s d t st.L (i + 1)
  pl : ∀ j, j < i + 1 → ∃ m, m < i + 1 ∧ shX st.L j = plN K n m
theorem new_one (t : Int) (p u : List Nat) (h0 : ¬ u.getD 0 0 = 0) : kNew t p u = ⟨t, p, u, 1, u, z32L, false⟩ := by
  unfold kNew aloN aloL
  rw [if_neg h0, if_neg h0]
theorem kSt_new {s d : List Nat} {t K n : Nat} (hs : ∀ c ∈ s, c < 256) (hd : ∀ c ∈ d, c < 256) (hn : 0 < n) (hn2 : n ≤ 200) (ht : t ≤ 1000) : KSh s d t K n (kSt s d t K n 0) 0 ∧ (kSt s d t K n 0).o = false := by
  have h0 : ¬ (shN s d t K n 0).getD 0 0 = 0 := by rw [shN_x]; unfold plN; omega
  have hok := kNew_ok (t := (t : Nat)) (prfL_len s) (prfL_lt s) (shN_len s d t K n 0) (shN_lt hs hd 0 hn hn2) (by omega) (by omega)
  have hxx := shN_x s d t K n 0
  have hyy := fun {k : Nat} (hk : k < 32) => shN_y s d t K n 0 hk
  rw [kSt]
  generalize shN s d t K n 0 = u at *
  rw [new_one _ _ _ h0] at hok ⊢
  refine ⟨⟨hok, rfl, rfl, rfl, ?_, ?_⟩, rfl⟩
  · intro j hj k hk
    obtain rfl : j = 0 := by omega
    have e1 : shY u 0 k = u.getD (1 + k) 0 := by unfold shY; rw [Nat.zero_mul, Nat.zero_add]
    have e2 : shX u 0 = u.getD 0 0 := by unfold shX; rw [Nat.zero_mul]
    show shY u 0 k = sy s d t (shX u 0) k
    rw [e1, e2, hyy hk, hxx]
  · intro j hj
    obtain rfl : j = 0 := by omega
    have e2 : shX u 0 = u.getD 0 0 := by unfold shX; rw [Nat.zero_mul]
    exact ⟨0, by omega, e2.trans hxx⟩
theorem kIns_sh {s d : List Nat} {t K n : Nat} (hs : ∀ c ∈ s, c < 256) (hd : ∀ c ∈ d, c < 256) (hn : 0 < n) (hn2 : n ≤ 200) {st : Kst} {i : Nat} (hi : i + 1 < n) (h : KSh s d t K n st i) :
    KSh s d t K n (kIns st (shN s d t K n (i + 1))) (i + 1) := by
  have h0 : (shN s d t K n (i + 1)).getD 0 0 ≠ 0 := by rw [shN_x]; unfold plN; omega
  have hv : hasV st.L ((shN s d t K n (i + 1)).getD 0 0) st.n = false := by
    cases hb : hasV st.L ((shN s d t K n (i + 1)).getD 0 0) st.n with
    | false => rfl
    | true =>
      obtain ⟨j, hj, he⟩ := (hasV_iff _ _ _).1 hb
      obtain ⟨m, hm, hx⟩ := h.pl j (by rw [h.n_] at hj; exact hj)
      rw [hx, shN_x] at he
      exact absurd he (plN_ne hn (by omega) hi (by omega))
  have hok := kIns_ok h.ok (shN_len s d t K n (i + 1)) (shN_lt hs hd (i + 1) hn hn2)
  have hk := posX_le st.L ((shN s d t K n (i + 1)).getD 0 0) st.n
  have hl33 := shN_len s d t K n (i + 1)
  have hxx := shN_x s d t K n (i + 1)
  have hyy := fun {k : Nat} (hk : k < 32) => shN_y s d t K n (i + 1) hk
  generalize shN s d t K n (i + 1) = u at *
  unfold kIns at hok ⊢
  rw [if_pos ⟨h0, hv⟩] at hok ⊢
  have hn' := h.n_
  refine ⟨hok, h.t_, h.p, by show st.n + 1 = _; omega, fun j hj k hk2 => ?_, fun j hj => ?_⟩
  · show shY (insL _ _ _) j k = sy s d t (shX (insL _ _ _) j) k
    rw [shY_ins h.ok.r.len hl33 hk j k hk2, shX_ins h.ok.r.len hl33 hk]
    split
    · exact h.of_ j (by omega) k hk2
    · split
      · rw [hyy hk2, hxx]
      · exact h.of_ (j - 1) (by omega) k hk2
  · show ∃ m, m < i + 1 + 1 ∧ shX (insL _ _ _) j = plN K n m
    rw [shX_ins h.ok.r.len hl33 hk]
    split
    · obtain ⟨m, hm, he⟩ := h.pl j (by omega); exact ⟨m, by omega, he⟩
    · split
      · exact ⟨i + 1, by omega, hxx⟩
      · obtain ⟨m, hm, he⟩ := h.pl (j - 1) (by omega); exact ⟨m, by omega, he⟩
theorem kTry_sh {s d : List Nat} {t K n : Nat} (hs : ∀ c ∈ s, c < 256) (hsl : s.length = 32) (hd : ∀ c ∈ d, c < 256) (ht : 1 ≤ t) {st : Kst} {i : Nat} (ho : st.o = false) (h : KSh s d t K n st i) :
    (i + 1 < t → kTry st = st) ∧ (t ≤ i + 1 → kTry st = { st with m := s, o := true }) := by
  have ht' := h.t_
  have hn' := h.n_
  constructor
  · intro hi
    unfold kTry
    rw [if_pos (.inr (by omega))]
  · intro hi
    unfold kTry
    have e : st.t.toNat = t := by omega
    rw [if_neg (by omega), e, com_eq hs hsl hd ht hi (by rw [← hn']; exact h.ok.r) h.of_, if_pos h.p.symm]
/-- before the last of the needed shares it is shut; with it, it opens to the secret -/
theorem kSt_run {s d : List Nat} {t K n : Nat} (hs : ∀ c ∈ s, c < 256) (hsl : s.length = 32) (hd : ∀ c ∈ d, c < 256) (ht : 1 ≤ t) (htn : t ≤ n) (hn2 : n ≤ 200) : ∀ i, i < t → KOK (kSt s d t K n i) ∧ (kSt s d t K n i).n = i + 1 ∧ (0 < i → (kSt s d t K n i).o = decide (i + 1 = t)) ∧ (i = 0 → (kSt s d t K n i).o = false) ∧ (i + 1 < t → KSh s d t K n (kSt s d t K n i) i) ∧ ((kSt s d t K n i).o = true → (kSt s d t K n i).m = s)
  | 0, _ => by
    have h := kSt_new (K := K) (t := t) hs hd (show 0 < n by omega) hn2 (by omega)
    exact ⟨h.1.ok, h.1.n_, fun h0 => absurd h0 (by omega), fun _ => h.2, fun _ => h.1, fun h1 => by rw [h.2] at h1; cases h1⟩
  | i + 1, hi => by
    obtain ⟨_, _, h2, h3, h4, _⟩ := kSt_run hs hsl hd ht htn hn2 (K := K) i (by omega)
    have hk := h4 (by omega)
    have ho : (kSt s d t K n i).o = false := by
      rcases Nat.eq_zero_or_pos i with h0 | h0
      · exact h3 h0
      · rw [h2 h0]; exact decide_eq_false (by omega)
    have hins := kIns_sh hs hd (by omega) hn2 (by omega) hk
    have hio : (kIns (kSt s d t K n i) (shN s d t K n (i + 1))).o = false := (kIns_t _ _).2.2.2.2.1.trans ho
    have htry := kTry_sh hs hsl hd ht hio hins
    have e : kSt s d t K n (i + 1) = kTry (kIns (kSt s d t K n i) (shN s d t K n (i + 1))) := by
      show kOffer _ _ = _
      unfold kOffer
      rw [ho, if_neg (by decide)]
    rw [e]
    rcases Nat.lt_or_ge (i + 1 + 1) t with h5 | h5
    · rw [htry.1 h5]
      exact ⟨hins.ok, hins.n_, fun _ => by rw [hio]; exact (decide_eq_false (by omega)).symm, fun h => absurd h (by omega), fun _ => hins, fun h => by rw [hio] at h; cases h⟩
    · have hko := kTry_ok hins.ok
      rw [htry.2 h5] at hko ⊢
      exact ⟨hko, hins.n_, fun _ => (decide_eq_true (by omega)).symm, fun h => absurd h (by omega), fun h => absurd h (by omega), fun _ => rfl⟩
/-- one share needed: the keeper's own, offered again, opens it -/
theorem kSt_one {s d : List Nat} {K n : Nat} (hs : ∀ c ∈ s, c < 256) (hsl : s.length = 32) (hd : ∀ c ∈ d, c < 256) (hn : 0 < n) (hn2 : n ≤ 200) : kOffer (kSt s d 1 K n 0) (shN s d 1 K n 0) = { kSt s d 1 K n 0 with m := s, o := true } := by
  have h := kSt_new (K := K) (t := 1) hs hd hn hn2 (by omega)
  have hx : shX (kSt s d 1 K n 0).L 0 = (shN s d 1 K n 0).getD 0 0 := by
    obtain ⟨m, hm, he⟩ := h.1.pl 0 (by omega)
    obtain rfl : m = 0 := by omega
    rw [he, shN_x]
  have hv : hasV (kSt s d 1 K n 0).L ((shN s d 1 K n 0).getD 0 0) (kSt s d 1 K n 0).n = true := (hasV_iff _ _ _).2 ⟨0, by rw [h.1.n_]; omega, hx⟩
  have hi : kIns (kSt s d 1 K n 0) (shN s d 1 K n 0) = kSt s d 1 K n 0 := by
    unfold kIns
    rw [if_neg (fun hc => by rw [hv] at hc; cases hc.2)]
  unfold kOffer
  rw [h.2, if_neg (by decide), hi]
  exact (kTry_sh hs hsl hd (Nat.le_refl 1) h.2 h.1).2 (by omega)
end Go.Proofs.YtdbfikcpaionbaaDoor
/- Contract: the law's share. -/
namespace Go.Proofs.YtdbfikcpaionbaaDoor
open Go.RowKit
set_option linter.unusedVariables false
set_option linter.unusedSimpArgs false
set_option maxRecDepth 100000 in
set_option maxHeartbeats 4000000 in
theorem lshare_c (s d : List Nat) (K n t cap : Nat) (A : Option Addr) (w : World) (hs : s.length = 32) (hsl : ∀ c ∈ s, c < 256) (hd : ∀ c ∈ d, c < 256) (hn : 0 < n) (hn2 : n ≤ 200) (hK : K ≤ 1000)
    (ht1 : t ≤ 1000) (hr : Rd w w.heap.size A (byt d)) (hlen : d.length ≤ 1000000) :
    Calls Tryd.prog 9 #[.agg (vb s), .int .i64 (K : Nat), .int .i64 (n : Nat), .int .i64 (t : Nat), .slice A d.length cap] w fun e w' => e = .returned (.agg (vb (shr s d t (K % n + 1)))) ∧ Below w.heap.size w w' := by
  have hq : K % n < n := Nat.mod_lt _ hn
  have t1 : (K : Int).tmod (n : Int) = ((K % n : Nat) : Int) := by rw [Int.tmod_eq_emod_of_nonneg (by omega)]; omega
  obtain ⟨q, hqq⟩ : ∃ q, q = K % n := ⟨_, rfl⟩
  rw [← hqq] at hq t1 ⊢
  have t2 : IntKind.u8.wrap (q : Int) = (q : Int) := by rw [IntKind.wrap_u8]; omega
  obtain ⟨Q, hQ⟩ : ∃ Q, Q = q + 1 := ⟨_, rfl⟩
  rw [← hQ]
  have t3 : IntKind.u8.wrap ((q : Int) + 1) = (Q : Int) := by rw [IntKind.wrap_u8]; omega
  have t4 : (q : Int) + 1 = (Q : Int) := by omega
  have t5 : IntKind.i64.wrap (q : Int) = (q : Int) := by rw [IntKind.wrap_i64]; omega
  have hQ2 : Q < 256 := by omega
  have HSL := Lib.hid hsl
  have HD := Lib.hid hd
  have zf := zero_share
  have zs := z33_size
  have HSZ := Lib.hid (show (Tryd.prog.info? 23).map (·.size) = some (vb s).toList.length by rw [Array.length_toList, vb_size, hs]; kernel_rfl)
  have HSM := Lib.hid (share_size (shr s d t Q) (shr_len _ _ _ _))
  have HRD := Lib.hid hr
  clear hsl hd hr hqq hQ
  go_enter Tryd.func9, Tryd.ntmps9
  go_upto_region 1 with (refine Go.Great.wpList_boxTo rfl 23 (.tmp 0) rfl (some 5) rfl w.heap.size rfl (vb s) rfl ?_)
  have hz1 : Blk ((w.alloc (Obj.cells (vb s) 23)).alloc (Obj.cells z33 31)) w.heap.size 23 (vb s) := (Blk.new w _ _).alloc _
  have hz2 : Blk ((w.alloc (Obj.cells (vb s) 23)).alloc (Obj.cells z33 31)) (w.heap.size + 1) 31 z33 := by
    have h := Blk.new (w.alloc (Obj.cells (vb s) 23)) 31 z33
    simpa using h
  have hzb : Below w.heap.size w ((w.alloc (Obj.cells (vb s) 23)).alloc (Obj.cells z33 31)) := ((Below.refl _ _).alloc (Nat.le_refl _) _).alloc (by simp) _
  generalize (w.alloc (Obj.cells (vb s) 23)).alloc (Obj.cells z33 31) = Z at *
  have HZ1 := Lib.hid hz1
  have HZ2 := Lib.hid hz2
  have HZB := Lib.hid hzb
  clear hz1 hz2 hzb zf zs
  refine wp_region_loudTail 9 Z [] (fun _ _ _ => True) (by kernel_rfl) (by kernel_rfl) (by kernel_rfl) (by kernel_rfl) (fun _ _ _ _ _ _ => trivial) (Below.refl _ _).drew ?_
  simp only [List.take_succ_cons, List.take_zero, List.drop_succ_cons, List.drop_zero]
  repeat (first
    | (refine wpLoud_loadB rfl rfl 23 (.tmp 5) rfl w.heap.size 0 rfl (vb s) _ (fun z => rangeAt_blk (HZ1.out.below z.bel HZ1.out.lt)) Tryd.underlying23 rfl HSZ.out _ (by simp only [Act.put, List.setIfInBounds_toArray, List.set_cons_succ, List.set_cons_zero]; rfl) ?_)
    | (refine wpLoud_call 19 rfl [] (.agg (vb (shr s d t Q))) 19 (fun g => #[.agg (vb s), .int .u8 (Q : Nat), .int .i64 (t : Nat), .slice A d.length cap]) rfl (fun _ _ h => by cases h) rfl (fun g w => by kernel_rfl) (fun g y hg => by
        refine (rshare_c s d Q t cap A y.wd hs HSL.out HD.out hQ2 (by omega) ((HRD.out.below (HZB.out.trans (y.bel.mono HZB.out.size))).more (Nat.le_trans HZB.out.size y.bel.size)) hlen).mono ?_
        rintro e w' ⟨rfl, hb⟩
        exact ⟨_, rfl, hb, rfl⟩) _ (by simp only [Act.put, List.setIfInBounds_toArray, List.set_cons_succ, List.set_cons_zero]; rfl) ?_)
    | (refine wpLoud_plain rfl rfl rfl ?_; intro K hK; go_big_quiet_op; go_big_quiet_on))
  refine wpLoud_end [] (by rfl) ?_
  intro gg z hg
  have HZ3 := Lib.hid (HZ2.out.below z.bel HZ2.out.lt)
  have HB3 := Lib.hid (HZB.out.trans (z.bel.mono HZB.out.size))
  generalize z.wd = W3 at *
  simp only [fill, Act.put, List.setIfInBounds_toArray, List.set_cons_succ, List.set_cons_zero]
  refine wpList_store_rowTo rfl 31 (.tmp 10) (.tmp 19) rfl rfl (w.heap.size + 1) (vb (shr s d t Q)) rfl rfl 31 z33 HZ3.out HSM.out (z33_vb _ (shr_len _ _ _ _)) (vb_one _) ?_
  go_wp2_with fail
  refine bodyPost_ret (results_cell_row rfl _ _ (w.heap.size + 1) 31 (vb (shr s d t Q)) (0, 0) _ rfl (setRow_heap _ _ z33 _ 31 (0, 0) HZ3.out) Tryd.underlying31 rfl HSM.out) rfl ?_
  exact ⟨rfl, HB3.out.trans ⟨rfl, rfl, rfl, by simp [World.setRow], fun i hi => setRow_other _ _ i _ (by omega)⟩⟩
end Go.Proofs.YtdbfikcpaionbaaDoor
/- KeeperOpens, walked. -/
namespace Go.Proofs.YtdbfikcpaionbaaDoor
open Go.RowKit
set_option linter.unusedVariables false
set_option linter.unusedSimpArgs false
theorem wpList_load_rowK {P : Program} {ops : Array Oper} {rest : List Oper} {o : Oper} {a : Act} {w : World} {Q : Exit → Act → World → Prop} (hw : Region.wanted o (yielded ops a.tmps) = true) (ty : TypeId) (x : Operand) (ho : o.op = .load ty x)
    (g : Nat) (hx : a.eval x = .pointer (some ⟨g, 0, none⟩)) (t : TypeId) (cs : Array Value) (fr : Nat × Nat) (d : TypeDesc) (hg : w.heap[g]? = some (.cells cs t fr))
    (hu : P.underlying ty = some d) (hd : (match d with | .struct _ | .array _ _ => true | _ => false) = true) (hi : (P.info? ty).map (·.size) = some cs.size)
    (h : wpList P ops Q rest (a.put o.dst (.agg cs)) w) : wpList P ops Q (o :: rest) a w :=
  wpList_step fun K hK => by
    rw [if_pos hw]
    exact wp_load_row ty x ho g hx t cs fr d hg hu hd hi (hK _ _ h)
structure OpR (Z wr : World) (g1 : Nat) (st : Kst) (v : Value) : Prop where
  k : KAt wr g1 48 101 st v
  zb : Below Z.heap.size Z wr
  l1 : Z.heap.size ≤ g1
theorem OpR.next {Z wr w' : World} {g1 : Nat} {st : Kst} {v : Value} (h : OpR Z wr g1 st v) (hb : Below wr.heap.size wr w') : OpR Z w' g1 st v := ⟨h.k.next hb, h.zb.trans (hb.mono h.zb.size), h.l1⟩
theorem OpR.offer {Z wr w' : World} {g1 : Nat} {st st' : Kst} {v : Value} (h : OpR Z wr g1 st v) (hk : KGo wr g1 48 101 st' v w') : ∃ v', OpR Z w' g1 st' v' := by
  obtain ⟨v', k1, k2, k3⟩ := hk
  have h1 := h.l1
  refine ⟨v', k1, h.zb.trans (k2.below (fun i hi => ?_) h.zb.size), h.l1⟩
  rcases hi with hi | hi
  · omega
  · have := own_base h.k.own i hi; omega
set_option maxRecDepth 100000 in
set_option maxHeartbeats 8000000 in
theorem opens_c (s d : List Nat) (a1 a2 K cap : Nat) (A : Option Addr) (w : World) (hs : s.length = 32) (hsl : ∀ c ∈ s, c < 256) (hd : ∀ c ∈ d, c < 256) (ha1 : a1 < 256) (ha2 : a2 < 256) (hK : K < 256) (hc1 : d.length ≤ cap) (hc2 : cap ≤ maxLen) (hr : Rd w w.heap.size A (byt d)) (hR : RoundsAt w) :
    Calls Tryd.prog 3 #[.agg (vb s), .int .u8 a1, .int .u8 a2, .slice A d.length cap, .int .u8 K] w fun e w' => e = .returned (.bool true) ∧ Below w.heap.size w w' := by
  have HRO := Lib.hid hR
  have HSL := Lib.hid hsl
  have HD := Lib.hid hd
  have HRD := Lib.hid hr
  have hcm : (cap : Int) ≤ 9223372036854775807 := by simp only [maxLen] at hc2; omega
  obtain ⟨q1, hq1⟩ : ∃ q, q = a1 % 6 := ⟨_, rfl⟩
  have b1 : q1 < 6 := by omega
  have t1 : (a1 : Int).tmod 6 = (q1 : Int) := by rw [Int.tmod_eq_emod_of_nonneg (by omega)]; omega
  obtain ⟨n, hn⟩ : ∃ n, n = q1 + 1 := ⟨_, rfl⟩
  have e1 : (q1 : Int) + 1 = (n : Int) := by omega
  have b2 : 1 ≤ n := by omega
  have b3 : n ≤ 6 := by omega
  obtain ⟨q2, hq2⟩ : ∃ q, q = a2 % n := ⟨_, rfl⟩
  have b4 : q2 < n := by rw [hq2]; exact Nat.mod_lt _ (by omega)
  have t2 : (a2 : Int).tmod (n : Int) = (q2 : Int) := by rw [Int.tmod_eq_emod_of_nonneg (by omega), hq2]; rfl
  obtain ⟨t, ht⟩ : ∃ t, t = q2 + 1 := ⟨_, rfl⟩
  have e2 : (q2 : Int) + 1 = (t : Int) := by omega
  have b5 : 1 ≤ t := by omega
  have b6 : t ≤ n := by omega
  have HSK := Lib.hid (key_szL (l := s) hs)
  have HSKL := Lib.hid (show (Tryd.prog.info? 23).map (·.size) = some (vb s).toList.length by rw [Array.length_toList]; exact HSK.out)
  clear hq1 hn hq2 ht hsl hd hr hR
  by_cases hlen : 200 < d.length
  · have q9 : (200 : Int) < (d.length : Int) := by omega
    go_enter Tryd.func3, Tryd.ntmps3
    go_upto_region 1 with (refine Go.Great.wpList_boxTo rfl 23 (.tmp 0) rfl (some 5) rfl w.heap.size rfl (vb s) rfl ?_)
    have hz1 : Blk (w.alloc (Obj.cells (vb s) 23)) w.heap.size 23 (vb s) := Blk.new w _ _
    have hzb : Below w.heap.size w (w.alloc (Obj.cells (vb s) 23)) := (Below.refl _ _).alloc (Nat.le_refl _) _
    generalize w.alloc (Obj.cells (vb s) 23) = Z at *
    have HZ1 := Lib.hid hz1
    have HZB := Lib.hid hzb
    clear hz1 hzb
    go_wp2_with (go_at_call 6; (refine (awake30_c Z (HRO.out.next HZB.out)).mono ?_); rintro e W9 ⟨rfl, hb9⟩; have HB9 := Lib.hid (HZB.out.trans (hb9.mono HZB.out.size)); clear hb9)
    go_ret
    exact ⟨rfl, HB9.out⟩
  have q9 : ¬ (200 : Int) < (d.length : Int) := by omega
  have hlen2 : d.length ≤ 200 := by omega
  have HKS := Lib.hid (fun i (hi : i < t) => kSt_run (K := K) HSL.out hs HD.out b5 b6 (show n ≤ 200 by omega) i hi)
  have HNW := Lib.hid (fun W => knew_c (t : Nat) (prfL s) (shN s d t K n 0) W (prfL_len s) (prfL_lt s) (shN_len s d t K n 0) (shN_lt HSL.out HD.out 0 (by omega) (by omega)) (by omega) (by omega))
  have HS0 := Lib.hid (show kNew (t : Nat) (prfL s) (shN s d t K n 0) = kSt s d t K n 0 by rw [kSt])
  rw [HS0.out] at HNW
  obtain ⟨u0, hu0⟩ : ∃ u, u = shN s d t K n 0 := ⟨_, rfl⟩
  have HU0 := Lib.hid hu0
  rw [← hu0] at HNW
  have HSH0 := Lib.hid (show shr s d t (K % n + 1) = u0 by rw [hu0]; rfl)
  have t6 : IntKind.i64.wrap (K : Int) = (K : Int) := by rw [IntKind.wrap_i64]; omega
  clear hu0
  go_enter Tryd.func3, Tryd.ntmps3
  go_upto_region 1 with (refine Go.Great.wpList_boxTo rfl 23 (.tmp 0) rfl (some 5) rfl w.heap.size rfl (vb s) rfl ?_)
  have hz1 : Blk (w.alloc (Obj.cells (vb s) 23)) w.heap.size 23 (vb s) := Blk.new w _ _
  have hzb : Below w.heap.size w (w.alloc (Obj.cells (vb s) 23)) := (Below.refl _ _).alloc (Nat.le_refl _) _
  generalize w.alloc (Obj.cells (vb s) 23) = Z at *
  have HZ1 := Lib.hid hz1
  have HZB := Lib.hid hzb
  clear hz1 hzb
  have HSH := Lib.hid (fun (W : World) (hb : Below Z.heap.size Z W) (k : Nat) (hk : k ≤ 1000) => lshare_c s d k n t cap A W hs HSL.out HD.out (by omega) (by omega) hk (by omega) ((HRD.out.below (HZB.out.trans (hb.mono HZB.out.size))).more (Nat.le_trans HZB.out.size hb.size)) (by omega))
  have HRR := Lib.hid (fun W (h : Below Z.heap.size Z W) => (HRO.out.next HZB.out).next (h.mono (Nat.le_refl _)))
  go_upto_region 5 with fail
  refine wp_region_loud Z [40, 13] (fun k u W => ∃ g v, u = .pointer (some ⟨g, 0, none⟩) ∧ KAt W g 48 101 (kSt s d t K n 0) v ∧ Z.heap.size ≤ g) (by kernel_rfl) (by kernel_rfl) (by kernel_rfl) (by kernel_rfl) (fun k u w1 w2 h hb => by
    obtain ⟨g, v, h1, h2, h3⟩ := h
    exact ⟨g, v, h1, h2.next hb, h3⟩) (Below.refl _ _).drew ?_
  repeat (first
    | (refine wpLoud_loadB rfl rfl 23 (.tmp 5) rfl w.heap.size 0 rfl (vb s) _ (fun z => rangeAt_blk (HZ1.out.below z.bel HZ1.out.lt)) Tryd.underlying23 rfl HSKL.out _ (by simp only [Act.put, List.setIfInBounds_toArray, List.set_cons_succ, List.set_cons_zero]; rfl) ?_)
    | (refine wpLoud_call 32 rfl [] (.agg (vb (prfL s))) 8 (fun g => #[.agg (vb s)]) rfl (fun _ _ h => by cases h) rfl (fun g w => by kernel_rfl) (fun g y hg => by
        refine (lproof_c s y.wd hs HSL.out).mono ?_
        rintro e w' ⟨rfl, hb⟩
        exact ⟨_, rfl, hb, rfl⟩) _ (by simp only [Act.put, List.setIfInBounds_toArray, List.set_cons_succ, List.set_cons_zero]; rfl) ?_)
    | (refine wpLoud_call 39 rfl [] (.agg (vb u0)) 9 (fun g => #[.agg (vb s), .int .i64 (K : Nat), .int .i64 (n : Nat), .int .i64 (t : Nat), .slice A d.length cap]) rfl (fun _ _ h => by cases h) rfl (fun g w => by kernel_rfl) (fun g y hg => by
        refine (HSH.out y.wd y.bel K (by omega)).mono ?_
        rintro e w' ⟨rfl, hb⟩
        exact ⟨_, rfl, hb, by rw [HSH0.out]; rfl⟩) _ (by simp only [Act.put, List.setIfInBounds_toArray, List.set_cons_succ, List.set_cons_zero]; rfl) ?_)
    | (refine wpLoud_call 40 rfl [] tok 7 (fun l => #[.int .i64 (t : Nat), .agg (vb (prfL s)), .agg (vb u0)]) rfl (fun _ _ h => by cases h) rfl (fun g w => by kernel_rfl) (fun l y hg => by
        refine (HNW.out y.wd).mono ?_
        rintro e w' ⟨g, v, rfl, h1, h2, hb, h3⟩
        exact ⟨_, rfl, hb, ⟨g, v, rfl, h2, Nat.le_trans y.bel.size h1⟩⟩) _ (by simp only [Act.put, List.setIfInBounds_toArray, List.set_cons_succ, List.set_cons_zero]; rfl) ?_)
    | (refine wpLoud_move rfl 40 13 (.inl rfl) rfl rfl rfl rfl (fun u w h => h) _ (by simp only [Act.put, List.setIfInBounds_toArray, List.set_cons_succ, List.set_cons_zero]; rfl) ?_)
    | (refine wpLoud_plain rfl rfl rfl ?_; intro K hK; go_big_quiet_op; go_big_quiet_on))
  refine wpLoud_end [13] (by rfl) ?_
  intro gg z hg
  have h13 : ∃ g v, gg 13 = .pointer (some ⟨g, 0, none⟩) ∧ KAt z.wd g 48 101 (kSt s d t K n 0) v ∧ Z.heap.size ≤ g := hg 13 (by simp)
  obtain ⟨g1, v1, e13, ka, hl1⟩ := h13
  have HOP := Lib.hid (OpR.mk ka z.bel hl1)
  have hg10 : 0 < g1 := by have h := HRO.out.2; have h2 := HZB.out.size; omega
  generalize z.wd = W2 at *
  simp only [fill, Act.put, List.setIfInBounds_toArray, List.set_cons_succ, List.set_cons_zero]
  rw [e13]
  generalize gg 40 = x40 at *
  clear hg e13 ka hl1 HNW HS0
  have HOFF := Lib.hid (fun (i : Nat) (hi : i < t) (u : List Nat) (hu : u.length = 33) (hub : ∀ c ∈ u, c < 256) (v : Value) (W : World) (hk : KAt W g1 48 101 (kSt s d t K n i) v) (hR : RoundsAt W) => offer_c W g1 (kSt s d t K n i) v u hu hub (by rw [(HKS.out i hi).2.1]; omega) (HKS.out i hi).1 hk hR hg10)
  go_wp2_with fail
  go_loopw [14] (fun i wr => ∃ j : Nat, 1 ≤ j ∧ j ≤ t ∧ i = .int .i64 (j : Nat) ∧ ∃ v, OpR Z wr g1 (kSt s d t K n (j - 1)) v) (fun i _ => t - (intOf i).toNat)
  case atStart => exact ⟨1, Nat.le_refl _, b5, rfl, _, HOP.out⟩
  case round =>
    rename World => wr
    clear HOP
    obtain ⟨j, hj1, hj2, rfl, v, hop⟩ := hrel
    have HKR := Lib.hid hop
    have HKB := Lib.hid (HZ1.out.below hop.zb HZ1.out.lt)
    by_cases hlt : j < t
    · have q2 : (j : Int) < (t : Int) := by omega
      have HLT := Lib.hid hlt
      have ho1 : (kSt s d t K n (j - 1)).o = false := by
        obtain ⟨_, _, h2, h3, _⟩ := HKS.out (j - 1) (by omega)
        rcases Nat.eq_zero_or_pos (j - 1) with h0 | h0
        · exact h3 h0
        · rw [h2 h0]; exact decide_eq_false (by omega)
      have HCO := Lib.hid (show wr.cell? ⟨g1, 99, none⟩ = some (.bool false) by rw [← ho1]; exact hop.k.co)
      obtain ⟨st2, hst2⟩ : ∃ st2, st2 = kSt s d t K n j := ⟨_, rfl⟩
      have HST2 := Lib.hid hst2
      have hoff := fun W (hk : KAt W g1 48 101 (kSt s d t K n (j - 1)) v) hR => HOFF.out (j - 1) (by omega) (shN s d t K n j) (shN_len _ _ _ _ _ _) (shN_lt HSL.out HD.out j (by omega) (by omega)) v W hk hR
      rw [show kOffer (kSt s d t K n (j - 1)) (shN s d t K n j) = st2 by
        rw [hst2]
        obtain ⟨i, rfl⟩ : ∃ i, j = i + 1 := ⟨j - 1, by omega⟩
        rfl] at hoff
      obtain ⟨Kj, hKj⟩ : ∃ Kj, Kj = K + j := ⟨_, rfl⟩
      have e3 : (K : Int) + (j : Int) = (Kj : Int) := by omega
      have b7 : Kj ≤ 1000 := by omega
      rw [show shN s d t K n j = shr s d t (Kj % n + 1) by rw [hKj]; rfl] at hoff
      unfold KRet at hoff
      have HJO := Lib.hid (show decide (j + 1 = t) = st2.o by rw [hst2]; exact ((HKS.out j hlt).2.2.1 (by omega)).symm)
      obtain ⟨o', ho'⟩ : ∃ o', o' = st2.o := ⟨_, rfl⟩
      rw [← ho'] at hoff
      have HSO2 := Lib.hid ho'.symm
      have HOF := Lib.hid hoff
      clear hoff hop ho1 hst2 hKj ho'
      generalize kSt s d t K n (j - 1) = st1 at *
      cases o' with
      | false =>
        have hj1 := HJO.out
        rw [HSO2.out] at hj1
        have q5 : ¬ (j : Int) = (t : Int) - 1 := by have := of_decide_eq_false hj1; omega
        clear hj1
        go_wp2_with (first
          | (refine wpList_load_rowK rfl 23 (.tmp 5) rfl w.heap.size rfl 23 (vb s) (0, 0) _ HKB.out Tryd.underlying23 rfl HSK.out ?_)
          | (go_at_call 10; (refine (kopen_c wr g1 false HCO.out).mono ?_); rintro e w2 ⟨rfl, rfl⟩)
          | (go_at_call 9; (refine (HSH.out wr HKR.out.zb Kj (by omega)).mono ?_); rintro e w3 ⟨rfl, hb3⟩; have HKR3 := Lib.hid (HKR.out.next hb3); clear hb3)
          | (go_at_call 11; (refine (HOF.out w3 HKR3.out.k (HRR.out w3 HKR3.out.zb)).mono ?_); rintro e w4 ⟨rfl, kg⟩; have HKG := Lib.hid kg; clear kg))
        obtain ⟨v4, hk4⟩ := HKR3.out.offer HKG.out
        go_roundw
        case rel => exact ⟨j + 1, by omega, HLT.out, by go_num, v4, by rw [show j + 1 - 1 = j from rfl, ← HST2.out]; exact hk4⟩
        case measure => have := HLT.out; simp [intOf]; omega
      | true =>
        have hj1 := HJO.out
        rw [HSO2.out] at hj1
        have q5 : ((j : Int) == (t : Int) - 1) = true := by rw [beq_iff_eq]; have := of_decide_eq_true hj1; omega
        clear hj1
        go_wp2_with (first
          | (refine wpList_load_rowK rfl 23 (.tmp 5) rfl w.heap.size rfl 23 (vb s) (0, 0) _ HKB.out Tryd.underlying23 rfl HSK.out ?_)
          | (go_at_call 10; (refine (kopen_c wr g1 false HCO.out).mono ?_); rintro e w2 ⟨rfl, rfl⟩)
          | (go_at_call 9; (refine (HSH.out wr HKR.out.zb Kj (by omega)).mono ?_); rintro e w3 ⟨rfl, hb3⟩; have HKR3 := Lib.hid (HKR.out.next hb3); clear hb3)
          | (go_at_call 11; (refine (HOF.out w3 HKR3.out.k (HRR.out w3 HKR3.out.zb)).mono ?_); rintro e w4 ⟨rfl, kg⟩; have HKG := Lib.hid kg; clear kg))
        obtain ⟨v4, hk4⟩ := HKR3.out.offer HKG.out
        go_roundw
        case rel => exact ⟨j + 1, by omega, HLT.out, by go_num, v4, by rw [show j + 1 - 1 = j from rfl, ← HST2.out]; exact hk4⟩
        case measure => have := HLT.out; simp [intOf]; omega
    · have q2 : ¬ (j : Int) < (t : Int) := by omega
      obtain rfl : j = t := by omega
      by_cases h1 : j = 1
      · have q3 : ((j : Int) == 1) = true := by rw [h1]; rfl
        have ho1 : (kSt s d j K n (j - 1)).o = false := (HKS.out (j - 1) (by omega)).2.2.2.1 (by omega)
        have HCO := Lib.hid (show wr.cell? ⟨g1, 99, none⟩ = some (.bool false) by rw [← ho1]; exact hop.k.co)
        obtain ⟨st3, hst3⟩ : ∃ st3, st3 = kOffer (kSt s d j K n (j - 1)) (shN s d j K n 0) := ⟨_, rfl⟩
        have hoff := fun W (hk : KAt W g1 48 101 (kSt s d j K n (j - 1)) v) hR => HOFF.out (j - 1) (by omega) (shN s d j K n 0) (shN_len _ _ _ _ _ _) (shN_lt HSL.out HD.out 0 (by omega) (by omega)) v W hk hR
        have hk3 : KOK st3 := by rw [hst3]; exact kOffer_ok (HKS.out (j - 1) (by omega)).1 (shN_len _ _ _ _ _ _) (shN_lt HSL.out HD.out 0 (by omega) (by omega))
        have hm3 : st3.o = true ∧ st3.m = s := by
          rw [hst3]
          subst h1
          rw [show (1 : Nat) - 1 = 0 from rfl, kSt_one HSL.out hs HD.out (by omega) (by omega)]
          exact ⟨rfl, rfl⟩
        rw [← hst3, ← HU0.out, ← HSH0.out] at hoff
        unfold KRet at hoff
        rw [hm3.1] at hoff
        have HOF := Lib.hid hoff
        have HSK3 := Lib.hid hk3
        have HSO3 := Lib.hid hm3
        clear hoff hop ho1 hst3 hk3 hm3 h1
        generalize kSt s d j K n (j - 1) = st1 at *
        go_upto_region 13 with (first
          | (refine wpList_load_rowK rfl 23 (.tmp 5) rfl w.heap.size rfl 23 (vb s) (0, 0) _ HKB.out Tryd.underlying23 rfl HSK.out ?_)
          | (go_at_call 10; (refine (kopen_c wr g1 false HCO.out).mono ?_); rintro e w2 ⟨rfl, rfl⟩)
          | (go_at_call 9; (refine (HSH.out wr HKR.out.zb K (by omega)).mono ?_); rintro e w3 ⟨rfl, hb3⟩; have HKR3 := Lib.hid (HKR.out.next hb3); clear hb3)
          | (go_at_call 11; (refine (HOF.out w3 HKR3.out.k (HRR.out w3 HKR3.out.zb)).mono ?_); rintro e w4 ⟨rfl, kg⟩; have HKG := Lib.hid kg; clear kg))
        obtain ⟨v3, hk4⟩ := HKR3.out.offer HKG.out
        have HK3 := Lib.hid hk4
        clear hk4
        have hms := master_c w4 g1 st3 v3 HSK3.out HK3.out.k
        rw [show kmL st3 = s by unfold kmL; rw [HSO3.out.1]; exact HSO3.out.2, show kmE st3 = 0 by unfold kmE; rw [HSO3.out.1]; rfl] at hms
        have HMS := Lib.hid hms
        have HMZ := Lib.hid (key_szL (l := s) hs)
        have HMQ := Lib.hid (show z32.size = (vb s).size by rw [vb_size]; exact hs.symm)
        have HMKL := Lib.hid (show (Tryd.prog.info? 23).map (·.size) = some (byt s).length by rw [byt_len]; exact (HMZ.out.trans (congrArg some (vb_size _))))
        have l3 : ∀ W, (Op.equalIn 10000 23 (.agg (vb s)) (.agg (vb s))).run Tryd.prog W = .ok true W := fun W => by
          have h := run_equalIn_barr (P := Tryd.prog) (T := 23) Tryd.underlying23 Tryd.underlying5 (by kernel_rfl) (by kernel_rfl) s s hs hs HSL.out HSL.out W
          rwa [beq_self_eq_true] at h
        have zf := zero_key
        have zn := z32_size
        have ze := z32_ne
        clear hms
        go_upto_region 14 with (first
          | (go_at_call 12; (refine HMS.out.mono ?_); rintro e w5 ⟨rfl, hb5⟩; have HB5 := Lib.hid (HK3.out.zb.trans (hb5.mono HK3.out.zb.size)); clear hb5)
          | (refine wpList_store_rowTo rfl 23 (.tmp 15) (.tmp 87) rfl rfl w5.heap.size (vb s) rfl rfl 23 z32 (by exact Blk.new w5 _ _) HMZ.out HMQ.out (vb_one _) ?_))
        have h61 : Blk ((w5.alloc (Obj.cells z32 23)).setRow w5.heap.size (vb s)) w5.heap.size 23 (vb s) := setRow_heap _ _ z32 _ 23 (0, 0) (Blk.new w5 _ _)
        have h6b : Below w5.heap.size w5 ((w5.alloc (Obj.cells z32 23)).setRow w5.heap.size (vb s)) := Below.setRow ((Below.refl _ _).alloc (Nat.le_refl _) _) (Nat.le_refl _) _
        have HB6 := Lib.hid (HB5.out.trans (h6b.mono HB5.out.size))
        have H61 := Lib.hid h61
        generalize (w5.alloc (Obj.cells z32 23)).setRow w5.heap.size (vb s) = W6 at *
        generalize w5.heap.size = g6 at *
        clear h61 h6b zf zn ze
        have HKB6 := Lib.hid (HZ1.out.below HB6.out HZ1.out.lt)
        have HR6 := Lib.hid (HRR.out W6 HB6.out)
        have HZ6 := Lib.hid (HZB.out.trans (HB6.out.mono HZB.out.size))
        go_wp2_with (first
          | (refine wpList_load_rowK rfl 23 (.tmp 15) rfl g6 rfl 23 (vb s) (0, 0) _ H61.out Tryd.underlying23 rfl HSK.out ?_)
          | (refine wpList_load_rowK rfl 23 (.tmp 5) rfl w.heap.size rfl 23 (vb s) (0, 0) _ HKB6.out Tryd.underlying23 rfl HSK.out ?_)
          | (go_at_call 6; (refine (awake30_c W6 HR6.out).mono ?_); rintro e W9 ⟨rfl, hb9⟩; have HX := Lib.hid (HZ6.out.trans (hb9.mono HZ6.out.size)); clear hb9))
        go_ret
        exact ⟨rfl, HX.out⟩
      · have q3 : ¬ (j : Int) = 1 := by omega
        have hm3 : (kSt s d j K n (j - 1)).o = true := by rw [(HKS.out (j - 1) (by omega)).2.2.1 (by omega)]; exact decide_eq_true (by omega)
        have HSO3 := Lib.hid (And.intro hm3 ((HKS.out (j - 1) (by omega)).2.2.2.2.2 hm3))
        have HSK3 := Lib.hid (HKS.out (j - 1) (by omega)).1
        have HK3 := HKR
        clear hop hm3
        generalize kSt s d j K n (j - 1) = st3 at *
        go_upto_region 13 with fail
        have hms := master_c wr g1 st3 v HSK3.out HK3.out.k
        rw [show kmL st3 = s by unfold kmL; rw [HSO3.out.1]; exact HSO3.out.2, show kmE st3 = 0 by unfold kmE; rw [HSO3.out.1]; rfl] at hms
        have HMS := Lib.hid hms
        have HMZ := Lib.hid (key_szL (l := s) hs)
        have HMQ := Lib.hid (show z32.size = (vb s).size by rw [vb_size]; exact hs.symm)
        have HMKL := Lib.hid (show (Tryd.prog.info? 23).map (·.size) = some (byt s).length by rw [byt_len]; exact (HMZ.out.trans (congrArg some (vb_size _))))
        have l3 : ∀ W, (Op.equalIn 10000 23 (.agg (vb s)) (.agg (vb s))).run Tryd.prog W = .ok true W := fun W => by
          have h := run_equalIn_barr (P := Tryd.prog) (T := 23) Tryd.underlying23 Tryd.underlying5 (by kernel_rfl) (by kernel_rfl) s s hs hs HSL.out HSL.out W
          rwa [beq_self_eq_true] at h
        have zf := zero_key
        have zn := z32_size
        have ze := z32_ne
        clear hms
        go_upto_region 14 with (first
          | (go_at_call 12; (refine HMS.out.mono ?_); rintro e w5 ⟨rfl, hb5⟩; have HB5 := Lib.hid (HK3.out.zb.trans (hb5.mono HK3.out.zb.size)); clear hb5)
          | (refine wpList_store_rowTo rfl 23 (.tmp 15) (.tmp 87) rfl rfl w5.heap.size (vb s) rfl rfl 23 z32 (by exact Blk.new w5 _ _) HMZ.out HMQ.out (vb_one _) ?_))
        have h61 : Blk ((w5.alloc (Obj.cells z32 23)).setRow w5.heap.size (vb s)) w5.heap.size 23 (vb s) := setRow_heap _ _ z32 _ 23 (0, 0) (Blk.new w5 _ _)
        have h6b : Below w5.heap.size w5 ((w5.alloc (Obj.cells z32 23)).setRow w5.heap.size (vb s)) := Below.setRow ((Below.refl _ _).alloc (Nat.le_refl _) _) (Nat.le_refl _) _
        have HB6 := Lib.hid (HB5.out.trans (h6b.mono HB5.out.size))
        have H61 := Lib.hid h61
        generalize (w5.alloc (Obj.cells z32 23)).setRow w5.heap.size (vb s) = W6 at *
        generalize w5.heap.size = g6 at *
        clear h61 h6b zf zn ze
        have HKB6 := Lib.hid (HZ1.out.below HB6.out HZ1.out.lt)
        have HR6 := Lib.hid (HRR.out W6 HB6.out)
        have HZ6 := Lib.hid (HZB.out.trans (HB6.out.mono HZB.out.size))
        go_wp2_with (first
          | (refine wpList_load_rowK rfl 23 (.tmp 15) rfl g6 rfl 23 (vb s) (0, 0) _ H61.out Tryd.underlying23 rfl HSK.out ?_)
          | (refine wpList_load_rowK rfl 23 (.tmp 5) rfl w.heap.size rfl 23 (vb s) (0, 0) _ HKB6.out Tryd.underlying23 rfl HSK.out ?_)
          | (go_at_call 6; (refine (awake30_c W6 HR6.out).mono ?_); rintro e W9 ⟨rfl, hb9⟩; have HX := Lib.hid (HZ6.out.trans (hb9.mono HZ6.out.size)); clear hb9))
        go_ret
        exact ⟨rfl, HX.out⟩
end Go.Proofs.YtdbfikcpaionbaaDoor
namespace Go.Proofs.YtdbfikcpaionbaaDoor
open Go Go.ChangeShapes Go.WideShapes Go.ChangeAt Go.RowKit
set_option maxRecDepth 100000 in
theorem keeperOpens_lifted (os : Os) (started : os.Started) (H : Type) (enc : TypeId × Value → H) :
    ReturnsInHanded {} Tryd.checked os 3 .any (fun w args => (Rows.keeperOpensSpec.pre enc Tryd.prog Tryd.f3 [] false w args ∧ laidMetH Tryd.prog laidR w) ∧ sizedMet enc Tryd.prog Tryd.f3 (OpenSpec.ofChange Rows.keeperOpensSpec) false w args) (Rows.keeperOpensSpec.post enc Tryd.prog Tryd.f3 false true false false) := by
  refine liftL started _ rfl (by kernel_rfl) Tryd.func3 ⟨rfl, fun H ds h => ?_⟩ rfl (of_decide_eq_true (by kernel_rfl))
    (ChangeSpec.witness_shaped (enc := enc) (C := Tryd.checked) (os := os) (X := fun w _ => laidMetH Tryd.prog laidR w) false (World.doorLaid Tryd.prog 400 os) #[.agg (Array.replicate 32 (.int .u8 0)), .int .u8 0, .int .u8 0, .slice none 0 0, .int .u8 0] 8 rfl (World.shaped_of_RefB (by kernel_rfl) (by kernel_rfl)) (by kernel_rfl) (by kernel_rfl) (by kernel_rfl) (door_met os _)) ?_
  · match ds, h with
    | [_, _, _, _, _], _ => rfl
  · intro W base args ds ps ht hw0 hval hA hlt
    rw [Tryd.params3] at hA hval
    obtain ⟨v0, vs0, d0, ds0, p0, q0, hargs, rfl, rfl, h0, r0⟩ := trodAll_cons hA
    obtain ⟨v1, vs1, d1, ds1, p1, q1, rfl, rfl, rfl, h1, r1⟩ := trodAll_cons r0
    obtain ⟨v2, vs2, d2, ds2, p2, q2, rfl, rfl, rfl, h2, r2⟩ := trodAll_cons r1
    obtain ⟨v3, vs3, d3, ds3, p3, q3, rfl, rfl, rfl, h3, r3⟩ := trodAll_cons r2
    obtain ⟨v4, vs4, d4, ds4, p4, q4, rfl, rfl, rfl, h4, r4⟩ := trodAll_cons r3
    obtain ⟨rfl, rfl, rfl⟩ := trodAll_nil r4
    obtain rfl : args = #[v0, v1, v2, v3, v4] := by cases args; simp_all
    obtain ⟨k0, rfl, kl0, ks0⟩ := open_key (hval 0 23 v0 rfl rfl) h0
    obtain ⟨a1, rfl, rfl, rfl, w1⟩ := open_int Tryd.underlying5 (hval 1 5 v1 rfl rfl) h1
    have hb1 := bounds_u8 w1
    obtain ⟨n1, rfl⟩ := Int.eq_ofNat_of_zero_le hb1.1
    obtain ⟨a2, rfl, rfl, rfl, w2⟩ := open_int Tryd.underlying5 (hval 2 5 v2 rfl rfl) h2
    have hb2 := bounds_u8 w2
    obtain ⟨n2, rfl⟩ := Int.eq_ofNat_of_zero_le hb2.1
    obtain ⟨A3, l3, cap3, rfl, hl3, hr3, hm3⟩ := open_bytes (hval 3 24 v3 rfl rfl) h3
    obtain ⟨a4, rfl, rfl, rfl, w4⟩ := open_int Tryd.underlying5 (hval 4 5 v4 rfl rfl) h4
    have hb4 := bounds_u8 w4
    obtain ⟨n4, rfl⟩ := Int.eq_ofNat_of_zero_le hb4.1
    exact opens_c k0 l3 n1 n2 n4 cap3 A3 W kl0 ks0 hl3 (by omega) (by omega) (by omega) (cap_bytesK h3).1 (cap_bytesK h3).2 hr3 ⟨ht, hw0⟩
theorem keeperOpens_row : Rows.KeeperOpensSaid :=
  OpenClaim.holds_of_wide 3 Tryd.f3 rfl rfl rfl rfl rfl rfl rfl ⟨rfl, rfl, rfl, rfl, rfl⟩ rfl rfl rfl rfl rfl (by kernel_rfl) Tryd.func3 (by kernel_rfl)
    (of_decide_eq_true (by kernel_rfl)) (by unfold Func.isWrapper; rw [if_neg (by decide +kernel)]; exact ⟨rfl, rfl⟩)
    (fun os started H enc _ => keeperOpens_lifted os started H enc)
theorem keeperOpens_holds : Rows.KeeperOpensCardSaid :=
  Claim7.holds_tied_plain_at .later [] [.data] true (true, "b8bb873c51d1ca2d5d4f004911b30f22941cb5f848fd8f695fb7fd769e264304") false
    keeperOpens_row (fun _ h => by cases h) (by kernel_rfl) (fun _ h => by cases h) keeperOpens_row_tie rfl ⟨rfl, rfl⟩ (by kernel_rfl) rfl
    (fun f fn hf hfn => by
      obtain rfl : f = 3 := Option.some.inj ((show Tryd.prog.funcNamed "quaestor/quaestorlaw30.KeeperOpens" = some 3 by kernel_rfl).symm.trans hf) |>.symm
      obtain rfl : fn = Tryd.f3 := (Option.some.inj (Tryd.func3.symm.trans hfn)).symm
      exact ⟨by kernel_rfl, fun j t ht => by
        rw [Tryd.params3] at ht
        have hm : t ∈ [23, 5, 5, 24, 5] := by simpa using Array.mem_of_getElem? ht
        have hall : ([23, 5, 5, 24, 5].all fun u => !Tryd.prog.wantsStandIn u) = true := by kernel_rfl
        exact (show Tryd.prog.wantsStandIn t = false by simpa using List.all_eq_true.1 hall t hm)⟩)
    (by kernel_rfl)
#print axioms keeperOpens_holds
end Go.Proofs.YtdbfikcpaionbaaDoor
