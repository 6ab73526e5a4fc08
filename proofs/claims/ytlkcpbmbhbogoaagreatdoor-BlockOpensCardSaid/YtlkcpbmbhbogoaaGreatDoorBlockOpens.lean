/- BlockOpens returns true for any two keys, groups of pieces and epochs. Conditions: the table of the quarters is as its initialiser lays it. -/
import Derived.Test.YtlkcpbmbhbogoaaGreatDoorZ12
import Derived.Test.YtlkcpbmbhbogoaaGreatDoorTie
import Derived.Test.YtlkcpbmbhbogoaaGreatDoorCards
import Derived.SevenTiedAt
/- Groups of pieces that came in, opened. -/
namespace Go.Proofs.YtlkcpbmbhbogoaaGreatDoor
set_option linter.unusedVariables false
set_option linter.unusedSimpArgs false
set_option maxRecDepth 100000
open Go.ChangeShapes Go.WideShapes Go.ChangeAt Go.RowKit
set_option linter.unusedVariables false
theorem pieces_of {H : Type} {enc : TypeId × Value → H} {W : World} {fuel : Nat} {cs : List Value} {y : DataW H × List MemPlace} (hf : DataW.trod enc Tryz.prog W 0 (fun _ => true) true fuel 30 cs = some y) :
    ∃ (A : Option Addr) (l : List Pc) (cap : Nat), cs = [.slice A l.length cap] ∧ l.length ≤ cap ∧ l.length ≤ 9223372036854775807 ∧ (∀ p ∈ l, PcOk p ∧ p.s.size ≤ 9223372036854775807) ∧ RdP W W.heap.size A l := by
  have hC : Tryz.prog.cellsOf 58 = 5 := by kernel_rfl
  rcases DataW.trod_slice Tryz.underlying30 hf with ⟨hcs, _⟩ | ⟨a, len, cap, elems, rest, n, _, hcs, _, hb, hl, hm, hlen, helem, _, _⟩
  · exact ⟨none, [], 0, hcs, Nat.le_refl _, by simp, by simp, Rd.nil_ _ _ _⟩
  · have key : ∀ m, m ≤ len → ∃ L : List Pc, L.length = m ∧ (∀ p ∈ L, PcOk p ∧ p.s.size ≤ 9223372036854775807) ∧ AtA W a (pcs L) := by
      intro m
      induction m with
      | zero => intro _; exact ⟨[], rfl, by simp, by intro j u hu; simp [pcs_nil] at hu⟩
      | succ m ih =>
        intro hm1
        obtain ⟨L, hL, hLs, hLc⟩ := ih (by omega)
        have he := helem m (by omega)
        have hem : elems[m]? = some (elems[m]'(by omega)) := List.getElem?_eq_getElem (by omega)
        rw [hem, hC, Option.bind_eq_some_iff] at he
        obtain ⟨cs', hcs', hy⟩ := he
        obtain ⟨q, rfl, hq⟩ := piece_of hy
        obtain ⟨_, _, hcell⟩ := World.cells?_some hcs'
        refine ⟨L ++ [q], by rw [List.length_append, hL]; rfl, fun c hc => (List.mem_append.1 hc).elim (hLs c) (fun h => by rw [List.mem_singleton.1 h]; exact hq), fun j u hu => ?_⟩
        rw [pcs_app] at hu
        rcases Nat.lt_or_ge j (m * 5) with hj | hj
        · rw [List.getElem?_append_left (by rw [pcs_len, hL]; exact hj)] at hu
          exact hLc j u hu
        · rw [List.getElem?_append_right (by rw [pcs_len, hL]; exact hj), pcs_len, hL, pcs_cons, pcs_nil, List.append_nil] at hu
          have hj2 : j - m * 5 < 5 := by
            rcases Nat.lt_or_ge (j - m * 5) 5 with h1 | h1
            · exact h1
            · rw [List.getElem?_eq_none (by simp [pcL]; omega)] at hu; cases hu
          have h2 := hcell (j - m * 5) hj2
          rw [Addr.add_add, show m * 5 + (j - m * 5) = j by omega] at h2
          rw [h2, hu]
    obtain ⟨L, hL, hLs, hLc⟩ := key len (Nat.le_refl _)
    refine ⟨some a, L, cap, by rw [hcs, hL], by rw [hL]; exact hl, by rw [hL]; simp only [maxLen] at hm; omega, hLs, fun hne => ?_⟩
    have h0 : 0 < (pcs L).length := by
      rcases Nat.eq_zero_or_pos (pcs L).length with h0 | h0
      · exact absurd (List.eq_nil_of_length_eq_zero h0) hne
      · exact h0
    have hc0 := hLc 0 _ (List.getElem?_eq_getElem h0)
    refine ⟨a, rfl, by have := cell_lt hc0; rwa [add_block] at this, hLc⟩
theorem open_groups {H : Type} {enc : TypeId × Value → H} {W : World} {base : Nat} {v : Value} {d : DataW H} {p : List MemPlace} (hv : Value.okWide Tryz.prog W .any base 24 v)
    (h : DataW.Trod enc Tryz.prog W 0 (fun _ => true) true 24 v d p) :
    ∃ (A : Option Addr) (gs : List (List Pc)) (cap : Nat), v = .slice A gs.length cap ∧ gs.length ≤ cap ∧ gs.length ≤ 9223372036854775807 ∧ (∀ g ∈ gs, g.length ≤ 9223372036854775807 ∧ ∀ p ∈ g, PcOk p ∧ p.s.size ≤ 9223372036854775807) ∧ LsAt W A gs := by
  have hC : Tryz.prog.cellsOf 30 = 1 := by kernel_rfl
  obtain ⟨A, len, cap, rfl⟩ := okWide_slice Tryz.underlying24 hv
  obtain ⟨fuel, hf⟩ := h
  rcases DataW.trod_slice Tryz.underlying24 hf with ⟨hcs, _⟩ | ⟨a, len', cap', elems, rest, n, _, hcs, _, hb, hl, hm, hlen, helem, _, _⟩
  · simp [Value.cells] at hcs
    obtain ⟨rfl, rfl, rfl⟩ := hcs
    exact ⟨none, [], 0, rfl, Nat.le_refl _, by simp, by simp, fun i hi => by simp at hi⟩
  · simp [Value.cells] at hcs
    obtain ⟨rfl, rfl, rfl⟩ := hcs
    have key : ∀ m, m ≤ len → ∃ gs : List (List Pc), gs.length = m ∧ (∀ g ∈ gs, g.length ≤ 9223372036854775807 ∧ ∀ p ∈ g, PcOk p ∧ p.s.size ≤ 9223372036854775807) ∧ LsAt W (some a) gs := by
      intro m
      induction m with
      | zero => intro _; exact ⟨[], rfl, by simp, fun i hi => by simp at hi⟩
      | succ m ih =>
        intro hm1
        obtain ⟨gs, hL, hLs, hLc⟩ := ih (by omega)
        have he := helem m (by omega)
        have hem : elems[m]? = some (elems[m]'(by omega)) := List.getElem?_eq_getElem (by omega)
        rw [hem, hC, Option.bind_eq_some_iff] at he
        obtain ⟨cs', hcs', hy⟩ := he
        obtain ⟨Ai, l, ci, rfl, hli, hlm, hlp, hlr⟩ := pieces_of hy
        obtain ⟨_, _, hcell⟩ := World.cells?_some hcs'
        have h0 := hcell 0 (by decide)
        rw [Addr.add_add, Nat.add_zero, Nat.mul_one] at h0
        simp only [List.getElem?_cons_zero] at h0
        refine ⟨gs ++ [l], by rw [List.length_append, hL]; rfl, fun c hc => (List.mem_append.1 hc).elim (hLs c) (fun h => by rw [List.mem_singleton.1 h]; exact ⟨hlm, hlp⟩), fun i hi => ?_⟩
        rcases Nat.lt_or_ge i gs.length with hj | hj
        · have e : (gs ++ [l]).getD i [] = gs.getD i [] := by rw [List.getD_eq_getElem?_getD, List.getElem?_append_left hj, List.getD_eq_getElem?_getD]
          rw [e]
          exact hLc i hj
        · have hi' : i = gs.length := by rw [List.length_append, List.length_singleton] at hi; omega
          subst hi'
          have e : (gs ++ [l]).getD gs.length [] = l := by rw [List.getD_eq_getElem?_getD, List.getElem?_append_right (Nat.le_refl _)]; simp
          rw [e]
          refine ⟨a, Ai, ci, rfl, ?_, ?_, hli, hlr⟩
          · have := cell_lt h0
            rwa [add_block] at this
          · rw [hL]
            exact h0
    obtain ⟨gs, hL, hLs, hLc⟩ := key len (Nat.le_refl _)
    exact ⟨some a, gs, cap, by rw [hL], by rw [hL]; exact hl, by rw [hL]; simp only [maxLen] at hm; omega, hLs, hLc⟩
end Go.Proofs.YtlkcpbmbhbogoaaGreatDoor
/- BlockOpens, walked. -/
namespace Go.Proofs.YtlkcpbmbhbogoaaGreatDoor
set_option linter.unusedVariables false
set_option linter.unusedSimpArgs false
set_option maxRecDepth 100000
open Go.RowKit
set_option linter.unusedVariables false
set_option linter.unusedSimpArgs false
theorem bxV_size (t : ByteArray) (ep : Nat) (nn : List Nat) (A : Option Addr) (n c : Nat) (h : nn.length = 12) : (bxV t ep nn A n c).size = 15 := by unfold bxV; rw [List.size_toArray, bxL_len t ep A n c h]
def t1 : ByteArray := ByteArray.mk #[116]
theorem t1_name : nameB t1 = true := by decide +kernel
/-- the boxes of two keys -/
structure Kb2 (w W : World) (k o : List Nat) : Prop where
  bel : Below w.heap.size w W
  kA : Blk W w.heap.size 23 (vb k)
  oA : Blk W (w.heap.size + 1) 23 (vb o)
  sz : w.heap.size + 1 + 1 ≤ W.heap.size
theorem Kb2.next {w W W' : World} {k o : List Nat} (s : Kb2 w W k o) (hb : Below (w.heap.size + 1 + 1) W W') : Kb2 w W' k o :=
  ⟨s.bel.trans (hb.mono (by omega)), s.kA.below hb (by omega), s.oA.below hb (by omega), Nat.le_trans s.sz hb.size⟩
theorem Kb2.begin (w : World) (k o : List Nat) : Kb2 w ((w.alloc (Obj.cells (vb k) 23)).alloc (Obj.cells (vb o) 23)) k o :=
  ⟨((Below.refl _ _).alloc (Nat.le_refl _) _).alloc (by simp) _, (Blk.new w _ _).below ((Below.refl _ _).alloc (Nat.le_refl _) _) (by simp), by
    have h := Blk.new (w.alloc (Obj.cells (vb k) 23)) 23 (vb o)
    simpa using h, by simp⟩
/-- what the loop leaves as it is -/
structure Sto (w W : World) (k o : List Nat) (A : Option Addr) (gs : List (List Pc)) (B : Option Addr) (es : List Nat) (An : Option Addr) (kb : Nat) : Prop where
  kb2 : Kb2 w W k o
  ls : LsAt W A gs
  er : Rd W W.heap.size B (byt es)
  nr : RdN W W.heap.size An (nns gs.length)
  km : KeysAt W kb 2 (kmV (kf2 k o))
  q : QuartersAt W
theorem Sto.next {w W W' : World} {k o : List Nat} {A : Option Addr} {gs : List (List Pc)} {B : Option Addr} {es : List Nat} {An : Option Addr} {kb : Nat} (h : Sto w W k o A gs B es An kb) (hb : Below W.heap.size W W') : Sto w W' k o A gs B es An kb :=
  ⟨h.kb2.next (hb.mono h.kb2.sz), h.ls.next hb, (h.er.below hb).more hb.size, (Rd.below (show Rd W W.heap.size An (nnC _) from h.nr) hb).more hb.size, h.km.next hb, h.q.next hb⟩
theorem idle2B {x y : Value} (h : isTok x = false) (h' : isTok y = false) : (!isTok x && (!isTok y && true)) = true := by rw [h, h']; rfl
def BxNew (t : ByteArray) (ep : Nat) (nn body : List Nat) (base : Nat) (u : Value) (W : World) : Prop := ∃ A c b, u = .slice (some ⟨b, 0, none⟩) 1 1 ∧ Blk W b 39 (bxV t ep nn A body.length c) ∧ b < W.heap.size ∧ OwnB W base (.slice A body.length c) body
theorem BxNew.next {t : ByteArray} {ep : Nat} {nn body : List Nat} {base : Nat} {u : Value} {W W' : World} (h : BxNew t ep nn body base u W) (hb : Below W.heap.size W W') : BxNew t ep nn body base u W' := by
  obtain ⟨A, c, b, e, h1, h2, h3⟩ := h
  exact ⟨A, c, b, e, h1.below hb h2, Nat.lt_of_lt_of_le h2 hb.size, h3.next hb⟩
def epI (es : List Nat) (i : Nat) : Nat := es.getD i 0 % 4
def keyI (k o es : List Nat) (i : Nat) : List Nat := if epI es i = 2 then o else k
def grI (gs : List (List Pc)) (i : Nat) : List Pc := mergeL (gs.getD i [])
def bosI (k o es : List Nat) (gs : List (List Pc)) (n : Nat) : List Bxo := bosTo (keyI k o es) t1 (epI es) (grI gs) n
def allI (gs : List (List Pc)) (n : Nat) : List Pc := ((List.range n).map (grI gs)).flatten
theorem allI_succ (gs : List (List Pc)) (n : Nat) : allI gs (n + 1) = allI gs n ++ grI gs n := by
  unfold allI
  rw [List.range_succ, List.map_append, List.flatten_append]
  simp
/-- a round's state: boxes, pieces -/
structure OpL (Zn wr : World) (lv av : Value) (us : List (List Value)) (bs : List Bxo) (al : List Pc) : Prop where
  lo : OwnX wr Zn.heap.size lv us
  ao : OwnP wr Zn.heap.size av al
  bel : Below Zn.heap.size Zn wr
  ne : ∀ g, lv.ownBlock = some g → av.ownBlock ≠ some g
  bv : BsQ wr (fun b => some b ≠ lv.ownBlock ∧ some b ≠ av.ownBlock) us bs
theorem OpL.next {Zn wr wr' : World} {lv av : Value} {us : List (List Value)} {bs : List Bxo} {al : List Pc} (h : OpL Zn wr lv av us bs al) (hb : Below wr.heap.size wr wr') : OpL Zn wr' lv av us bs al :=
  ⟨h.lo.next hb, h.ao.next hb, h.bel.trans (hb.mono h.bel.size), h.ne, h.bv.next hb⟩
/-- a box more -/
theorem OpL.box {Zn W W' : World} {lv lv' av : Value} {us : List (List Value)} {bs : List Bxo} {al : List Pc} {b : Bxo} {A : Option Addr} {c : Nat} (h : OpL Zn W lv av us bs al) (hap : Apped W Zn.heap.size 39 15 lv W' lv' (us.length + 1) (us.flatten ++ bxL b.t b.ep b.nn A b.body.length c))
    (hc : b.body.length ≤ c) (hr : Rd W W.heap.size A (byt b.body)) (ha : ∀ ad, A = some ad → byt b.body ≠ [] → some ad.block ≠ lv.ownBlock ∧ some ad.block ≠ av.ownBlock) (hok : BoOk b) : OpL Zn W' lv' av (us ++ [bxL b.t b.ep b.nn A b.body.length c]) (bs ++ [b]) al := by
  have h2 : ∀ g, av.ownBlock = some g → g < W.heap.size := own_lt h.ao
  have hne2 : ∀ g, av.ownBlock = some g → lv.ownBlock ≠ some g := fun g e1 e2 => h.ne g e2 e1
  refine ⟨OwnX.snoc hap, ?_, h.bel.trans (hap.below h.lo h.bel.size), ?_, ?_⟩
  · exact own_keep (S := fun g => lv.ownBlock = some g) h.ao (hap.only (fun g e => e)) hne2
  · intro g e1 e2
    rcases hap.lies with h3 | h3
    · rw [h3] at e1; exact h.ne g e1 e2
    · rw [h3] at e1
      injection e1 with e1
      have := h2 g e2
      omega
  · have h4 := (h.bv.snoc hc hr ha hok).grown hap.grown (fun b hb => hb.1)
    refine (h.bv.snoc hc hr ha hok).imp (P' := fun b => (some b ≠ lv.ownBlock ∧ some b ≠ av.ownBlock) ∧ some b ≠ lv'.ownBlock) (fun b hb hp => ⟨hp, ?_⟩) |>.grown hap.grown (fun b hb => hb.1.1) |>.imp (fun b _ hp => ⟨hp.2, hp.1.2⟩)
    rcases hap.lies with h3 | h3
    · rw [h3]; exact hp.1
    · rw [h3]; intro e; injection e with e; omega
/-- pieces more -/
theorem OpL.pcs {Zn W W' : World} {lv av av' : Value} {us : List (List Value)} {bs : List Bxo} {al m : List Pc} (h : OpL Zn W lv av us bs al) (hap : Apped W Zn.heap.size 58 5 av W' av' (al.length + m.length) (pcs al ++ pcs m)) : OpL Zn W' lv av' us bs (al ++ m) := by
  have h2 : ∀ g, lv.ownBlock = some g → g < W.heap.size := own_lt h.lo
  refine ⟨?_, OwnP.appM hap, h.bel.trans (hap.below h.ao h.bel.size), ?_, ?_⟩
  · exact own_keep (S := fun g => av.ownBlock = some g) h.lo (hap.only (fun g e => e)) (fun g e => h.ne g e)
  · intro g e1 e2
    rcases hap.lies with h3 | h3
    · rw [h3] at e2; exact h.ne g e1 e2
    · rw [h3] at e2
      injection e2 with e2
      have := h2 g e1
      omega
  · refine h.bv.imp (P' := fun b => (some b ≠ lv.ownBlock ∧ some b ≠ av.ownBlock) ∧ some b ≠ av'.ownBlock) (fun b hb hp => ⟨hp, ?_⟩) |>.grown hap.grown (fun b hb => hb.1.2) |>.imp (fun b _ hp => ⟨hp.1.1, hp.2⟩)
    rcases hap.lies with h3 | h3
    · rw [h3]; exact hp.2
    · rw [h3]; intro e; injection e with e; omega
set_option maxRecDepth 100000 in
set_option maxHeartbeats 32000000 in
theorem opens_c (k o : List Nat) (A : Option Addr) (cA : Nat) (gs : List (List Pc)) (B : Option Addr) (cB : Nat) (es : List Nat) (w : World) (hk : k.length = 32) (hkb : ∀ c ∈ k, c < 256) (ho : o.length = 32) (hob : ∀ c ∈ o, c < 256) (hls : LsAt w A gs) (hgl : gs.length ≤ 9223372036854775807) (hgp : ∀ g ∈ gs, g.length ≤ 9223372036854775807 ∧ ∀ p ∈ g, PcOk p ∧ p.s.size ≤ 9223372036854775807) (hes : Rd w w.heap.size B (byt es)) (heb : ∀ c ∈ es, c < 256) (hel : es.length ≤ 9223372036854775807) (hq : QuartersAt w) :
    Calls Tryz.prog 3 #[.agg (vb k), .agg (vb o), .slice A gs.length cA, .slice B es.length cB] w fun e w' => e = .returned (.bool true) ∧ Below w.heap.size w w' := by
  obtain ⟨i0, hi, hz0, hz1, hz2⟩ := piece_parts
  obtain ⟨ib, hib, hb0, hb1x, hb2x⟩ := parts_of boxInfo
  have HB := Lib.hid (Kb2.begin w k o)
  have HK := Lib.hid hk
  have HO := Lib.hid ho
  have HKB := Lib.hid hkb
  have HOB := Lib.hid hob
  have HLS := Lib.hid hls
  have HGP := Lib.hid hgp
  have HES := Lib.hid hes
  have HEB := Lib.hid heb
  have HQ := Lib.hid hq
  have HKS := Lib.hid (keySz hk)
  have HOS := Lib.hid (keySz ho)
  have zf2 := zero_keyX
  have zs3 : (vb z32).size = 32 := by rfl
  have zs4 : ¬ vb z32 = #[] := by intro h; have := congrArg Array.size h; rw [zs3] at this; cases this
  have HZK := Lib.hid (show (vb z32).size = (vb k).size by rw [vb_size, vb_size, hk]; rfl)
  have HKO := Lib.hid (show (vb k).size = (vb o).size by rw [vb_size, vb_size, hk, ho])
  clear hk ho hkb hob hls hgp hes heb hq
  by_cases hn : gs.length ≤ 6 ∧ gs.length ≤ es.length
  case neg =>
    have hor : (6 : Int) < (gs.length : Int) ∨ (¬ (6 : Int) < (gs.length : Int) ∧ (es.length : Int) < (gs.length : Int)) := by omega
    go_enter Tryz.func3, Tryz.ntmps3
    go_upto_region 1 with
    (first
      | (refine Go.Great.wpList_boxTo rfl 23 (.tmp 0) rfl (some 4) rfl w.heap.size rfl (vb k) rfl ?_)
      | (refine Go.Great.wpList_boxTo rfl 23 (.tmp 1) rfl (some 5) rfl (w.heap.size + 1) (by simp) (vb o) rfl ?_))
    generalize (w.alloc (Obj.cells (vb k) 23)).alloc (Obj.cells (vb o) 23) = Z at *
    have HBZ := Lib.hid HB.out.bel
    have HAW := Lib.hid (awake17_c Z)
    rcases hor with q1 | ⟨q1, q2⟩
    · go_wp2_with (go_at_call 5; (with_reducible refine HAW.out.mono ?_); rintro e W9 ⟨rfl, hb⟩; have HB9 := Lib.hid (HBZ.out.trans (hb.mono HBZ.out.size)); clear hb)
      go_ret
      exact ⟨rfl, HB9.out⟩
    · go_wp2_with (go_at_call 5; (with_reducible refine HAW.out.mono ?_); rintro e W9 ⟨rfl, hb⟩; have HB9 := Lib.hid (HBZ.out.trans (hb.mono HBZ.out.size)); clear hb)
      go_ret
      exact ⟨rfl, HB9.out⟩
  case pos =>
    obtain ⟨hn1, hn2⟩ := hn
    have q1 : ¬ (6 : Int) < (gs.length : Int) := by omega
    have q2 : ¬ (es.length : Int) < (gs.length : Int) := by omega
    have HN1 := Lib.hid hn1
    have HN2 := Lib.hid hn2
    clear hn1 hn2
    go_enter Tryz.func3, Tryz.ntmps3
    go_upto_region 1 with
    (first
      | (refine Go.Great.wpList_boxTo rfl 23 (.tmp 0) rfl (some 4) rfl w.heap.size rfl (vb k) rfl ?_)
      | (refine Go.Great.wpList_boxTo rfl 23 (.tmp 1) rfl (some 5) rfl (w.heap.size + 1) (by simp) (vb o) rfl ?_))
    generalize (w.alloc (Obj.cells (vb k) 23)).alloc (Obj.cells (vb o) 23) = Z at *
    obtain ⟨Z1, Z2, Z3, hr1, hb1, hr2, hb2, hr3, hb3, hkm⟩ := keys_two Z k o
    have HBZ1 := Lib.hid (HB.out.next (hb1.mono HB.out.sz))
    have HBZ2 := Lib.hid (HB.out.next (hb2.mono HB.out.sz))
    have HBZ3 := Lib.hid (HB.out.next (hb3.mono HB.out.sz))
    have HKM := Lib.hid hkm
    have HNC := Lib.hid (nonces_c gs.length Z3 (by have := HN1.out; omega))
    generalize Z.heap.size = kb at *
    clear hb1 hb2 hb3 hkm
    go_upto_region 8 with (first
      | (refine wpList_load_row rfl 23 (.tmp 4) rfl w.heap.size rfl 23 (vb k) (0, 0) _ HBZ1.out.kA Tryz.underlying23 rfl HKS.out ?_)
      | (refine wpList_load_row rfl 23 (.tmp 5) rfl (w.heap.size + 1) rfl 23 (vb o) (0, 0) _ HBZ2.out.oA Tryz.underlying23 rfl HOS.out ?_)
      | (go_at_call 6; (with_reducible refine HNC.out.mono ?_); rintro e Zn ⟨vn, rfl, hon, hbn⟩; obtain ⟨An, cn, rfl, hcn, _, hrn⟩ := hon.rd; have HST := Lib.hid (show Sto w Zn k o A gs B es An kb from ⟨HBZ3.out.next (hbn.mono HBZ3.out.sz), (HLS.out.next HBZ3.out.bel).next hbn, (HES.out.below (HBZ3.out.bel.trans (hbn.mono HBZ3.out.bel.size))).more (Nat.le_trans HBZ3.out.bel.size hbn.size), hrn, HKM.out.next hbn, (HQ.out.next HBZ3.out.bel).next hbn⟩); clear hon hbn hcn hrn))
    rw [nns_len]
    clear hr1 hr2 hr3 HBZ1 HBZ2 HBZ3 HB HKM HNC HLS HES HQ
    go_wp2_with fail
    go_loopw [10, 11, 12, 14, 75, 76] (fun lv av bv iv u u' wr => (isTok u = false ∧ isTok u' = false) ∧ ∃ i : Nat, i ≤ gs.length ∧ iv = .int .i64 (i : Nat) ∧ (∃ us, OpL Zn wr lv av us (bosI k o es gs i) (allI gs i)) ∧ ((bv = .int .i64 0 ∧ badTo (epI es) i = 0) ∨ (bv = .int .i64 11 ∧ badTo (epI es) i = 11)) ∧ ∀ j, j < i → greatB (gs.getD j []) 12 = false) (fun _ _ _ iv _ _ _ => gs.length - (intOf iv).toNat)
    case atStart => exact ⟨⟨rfl, rfl⟩, 0, Nat.zero_le _, rfl, ⟨[], ⟨OwnX.nil_ _ _, OwnP.nilM _ _, Below.refl _ _, fun g e => (by cases e), BsQ.nil_ _ _⟩⟩, .inl ⟨rfl, rfl⟩, fun j hj => by omega⟩
    case round =>
      rename World => wr
      obtain ⟨htk, i, hil, rfl, ⟨us, hL⟩, hbad, hng⟩ := hrel
      have HTK := Lib.hid htk
      clear htk
      by_cases hlt : i < gs.length
      · have r1 : (i : Int) < (gs.length : Int) := by omega
        have m2 : (i : Int) ≤ 6 := by have := HN1.out; omega
        have r2 : (i : Int) < (es.length : Int) := by have := HN2.out; omega
        obtain ⟨ad, Ai, ci, rfl, had, hcell, hci, hri⟩ := (HST.out.next hL.bel).ls i hlt
        obtain ⟨ae, rfl, hae, hcele⟩ := (HST.out.next hL.bel).er.byte (k := i) (by have := HN2.out; omega)
        obtain ⟨an, rfl, han, hatn⟩ := (HST.out.next hL.bel).nr.at_ (fun x hx => by
          unfold nns at hx
          obtain ⟨j, _, rfl⟩ := List.mem_map.1 hx
          exact nnI_len j) (i := i) (by rw [nns_len]; exact hlt)
        rw [nns_at hlt] at hatn
        have hgm : gs.getD i [] ∈ gs := by rw [List.getD_eq_getElem?_getD, List.getElem?_eq_getElem hlt]; exact List.getElem_mem hlt
        obtain ⟨hg1, hg2⟩ := HGP.out _ hgm
        have HGC := Lib.hid (show Calls Tryz.prog 7 #[.slice Ai (gs.getD i []).length ci, .int .i64 12] wr (fun e w' => e = .returned (.bool (greatB (gs.getD i []) 12)) ∧ wr = w') from great_c wr.heap.size Ai ci (gs.getD i []) 12 wr hri hg1 (by decide) (fun p hp => (hg2 p hp).2))
        have HL := Lib.hid hL
        have HBD := Lib.hid hbad
        have HNG := Lib.hid hng
        have HLT := Lib.hid hlt
        have HRI := Lib.hid hri
        have HATN := Lib.hid hatn
        have HHAD := Lib.hid had
        have HAW := Lib.hid (awake17_c wr)
        have HAEB := Lib.hid hae
        have HANB := Lib.hid han
        have HCEL := Lib.hid hcell
        have HCELE := Lib.hid hcele
        cases hgr : greatB (gs.getD i []) 12 with
        | true =>
          rw [hgr] at HGC
          clear hgr hg1 hg2 hgm hL hbad hng hlt hri hatn hci had hae han hil
          generalize (gs.getD i []).length = gl at *
          generalize es.getD i 0 = ev at *
          go_wp2_with (first
            | (go_at_call 7; (with_reducible refine HGC.out.mono ?_); rintro e W9 ⟨rfl, rfl⟩)
            | (go_at_call 5; (with_reducible refine HAW.out.mono ?_); rintro e W9 ⟨rfl, hb⟩; have HB9 := Lib.hid (HL.out.bel.trans (hb.mono HL.out.bel.size)); clear hb))
          try rw [Exit.noGoto_ret]
          go_ret
          exact ⟨rfl, HST.out.kb2.bel.trans (HB9.out.mono HST.out.kb2.bel.size)⟩
        | false =>
          rw [hgr] at HGC
          obtain ⟨hnum, hsz⟩ := greatB_no hgr
          have HGR := Lib.hid hgr
          have hok : ∀ p ∈ gs.getD i [], PcOk p ∧ p.s.size ≤ 9223372036854775807 := hg2
          have HRM := Lib.hid (fun W (hb : Below wr.heap.size wr W) => rmerge_c Ai ci (gs.getD i []) W (Rd.ups (Rd.below (show Rd wr wr.heap.size Ai (pcs _) from hri) hb) hb.size) (by omega) hok)
          have hml : (mergeL (gs.getD i [])).length ≤ 12 := Nat.le_trans (merge_len _) hnum
          have hmk : ∀ p ∈ mergeL (gs.getD i []), PcOk p ∧ p.s.size ≤ 1000000 := fun p hp => ⟨(hok p (merge_sub _ p hp)).1, by have := hsz p (merge_sub _ p hp); omega⟩
          have hck : chkL (mergeL (gs.getD i [])) = 0 := chk_small _ (merge_sorted _) (fun p hp => ((mem_merge _ p).1 hp).2.1) hml
          have HML := Lib.hid hml
          have HMK := Lib.hid hmk
          have HCK := Lib.hid hck
          obtain ⟨m, hm⟩ : ∃ m, m = mergeL (gs.getD i []) := ⟨_, rfl⟩
          rw [← hm] at HRM HML HMK HCK
          have HM := Lib.hid (show m = grI gs i from hm)
          have HEV := Lib.hid (getD_lt HEB.out i)
          have he4 : epI es i = es.getD i 0 % 4 := rfl
          clear hgr hg1 hg2 hgm hL hbad hng hlt hri hatn hci had hae han hil hnum hsz hok hml hmk hck hm
          generalize (gs.getD i []).length = gl at *
          generalize es.getD i 0 = ev at *
          obtain ⟨e4, hE4⟩ : ∃ e4, e4 = epI es i := ⟨_, rfl⟩
          rw [← hE4] at he4
          have HE4 := Lib.hid hE4
          have f1 : ((ev : Int) % 4) = (e4 : Int) := by omega
          have f2 : Int.tmod (ev : Int) 4 = (e4 : Int) := by rw [Int.tmod_eq_emod_of_nonneg (by omega)]; exact f1
          have f3 : (0 : Int) ≤ (e4 : Int) := by omega
          have f4 : (e4 : Int) ≤ 3 := by omega
          clear hE4 he4
          go_upto_region 16 with (first
            | (go_at_call 7; (with_reducible refine HGC.out.mono ?_); rintro e W9 ⟨rfl, rfl⟩)
            | (go_at_call 8; (with_reducible refine (HRM.out wr (Below.refl _ _)).mono ?_); rintro e W4 ⟨vm, rfl, hom, hbm⟩; obtain ⟨Am, cm, rfl, hcm, _, hrm⟩ := hom.rd; have HBM := Lib.hid hbm; have HRMM := Lib.hid hrm; have HOM := Lib.hid hom; have HST4 := Lib.hid ((HST.out.next HL.out.bel).next hbm); have c2 : W4.cell? (ae.add i) = some (.int .u8 (ev : Int)) := (hbm.cell (by rw [add_block]; exact HAEB.out)).trans HCELE.out; clear hbm hrm hom hcm)
            | (refine wpList_load_row rfl 23 (.tmp 4) rfl w.heap.size rfl 23 (vb k) (0, 0) _ HST4.out.kb2.kA Tryz.underlying23 rfl HKS.out ?_)
            | (refine wpList_store_rowTo rfl 23 (.tmp 17) (.tmp 63) rfl rfl W4.heap.size (vb k) rfl rfl 23 (vb z32) (by exact heap_alloc_new _ _) HKS.out HZK.out (vb_all _) ?_))
          obtain ⟨Y, hY⟩ : ∃ Y, Y = (W4.alloc (Obj.cells (vb z32) 23)).setRow W4.heap.size (vb k) := ⟨_, rfl⟩
          have hnr := new_rowP W4 23 (vb z32) (vb k)
          rw [← hY] at hnr ⊢
          have HX1 := Lib.hid hnr.1
          have HY1 := Lib.hid hnr.2
          have HSTY := Lib.hid (HST4.out.next hnr.2)
          clear hnr hY
          obtain ⟨g17, hg17⟩ : ∃ g, g = W4.heap.size := ⟨_, rfl⟩
          rw [← hg17] at HX1 ⊢
          have HG17 := Lib.hid hg17
          clear hg17
          obtain ⟨key, hkey⟩ : ∃ key, key = keyI k o es i := ⟨_, rfl⟩
          have HKEY := Lib.hid hkey
          clear hkey
          go_upto_if 65 with fail
          go_cut [] from 66 to 66 (fun wx => Blk wx g17 23 (vb key) ∧ Below W4.heap.size W4 wx)
          case first =>
            by_cases h2 : e4 = 2
            · have s1 : ((e4 : Int) == 2) = true := by rw [h2]; rfl
              have HKE := Lib.hid (show key = o by rw [HKEY.out]; unfold keyI; rw [← HE4.out, if_pos h2])
              clear h2
              go_wp2_with (first
                | (refine wpList_load_row rfl 23 (.tmp 5) rfl (w.heap.size + 1) rfl 23 (vb o) (0, 0) _ HSTY.out.kb2.oA Tryz.underlying23 rfl HOS.out ?_)
                | (refine wpList_store_rowTo rfl 23 (.tmp 17) (.tmp 66) rfl rfl g17 (vb o) rfl rfl 23 (vb k) HX1.out HOS.out HKO.out (vb_all _) ?_))
              go_meet
              refine ⟨?_, ?_⟩
              · rw [HKE.out]
                exact setRow_heap _ _ (vb k) _ 23 (0, 0) HX1.out
              · exact HY1.out.trans (below_setRowP _ _ _ (by rw [HG17.out]; exact Nat.le_refl _))
            · have s1 : ((e4 : Int) == 2) = false := by
                rw [beq_eq_false_iff_ne]; omega
              have HKE := Lib.hid (show key = k by rw [HKEY.out]; unfold keyI; rw [← HE4.out, if_neg h2])
              clear h2
              go_wp2_with fail
              go_meet
              exact ⟨by rw [HKE.out]; exact HX1.out, HY1.out⟩
          case rest =>
            obtain ⟨hkA, hW6⟩ := hcut
            have HBW := Lib.hid (HBM.out.trans (hW6.mono HBM.out.size))
            have hkl : key.length = 32 ∧ ∀ c ∈ key, c < 256 := by
              rw [HKEY.out]
              unfold keyI
              split
              · exact ⟨HO.out, HOB.out⟩
              · exact ⟨HK.out, HKB.out⟩
            have HKA := Lib.hid (fun (W : World) (h : ∃ x : Ext wc, W = x.wd) => show AtA W ⟨g17, 0, none⟩ (byt key) by
              obtain ⟨x, rfl⟩ := h
              exact fun j u hu => x.cell (atA_blk hkA j u hu))
            have hatn := HATN.out.below HBW.out (by rw [add_block]; exact HANB.out)
            have HNA := Lib.hid (fun (W : World) (h : ∃ x : Ext wc, W = x.wd) => show AtA W (an.add (i * 12)) (byt (nnI i)) by
              obtain ⟨x, rfl⟩ := h
              exact fun j u hu => x.cell (hatn j u hu))
            have HKL := Lib.hid (show (Tryz.prog.info? 23).map (·.size) = some (byt key).length by rw [byt_len, hkl.1]; kernel_rfl)
            have HNL := Lib.hid (show (Tryz.prog.info? 37).map (·.size) = some (byt (nnI i)).length by rw [byt_len, nnI_len]; kernel_rfl)
            have hrm6 : RdP wc wc.heap.size Am m := (Rd.below (show Rd W4 W4.heap.size Am (pcs _) from HRMM.out) hW6).more hW6.size
            have HSE := Lib.hid (fun U (hb : Below wc.heap.size wc U) => show Calls Tryz.prog 9 #[.agg (vb key), .agg (vb (nnI i)), .string t1, .int .u32 (e4 : Int), .slice Am m.length cm] U fun e w' => ∃ u, e = .returned u ∧ RBox t1 e4 (nnI i) (boxL key (nnI i) t1 e4 m) U.heap.size u w' ∧ Below U.heap.size U w' from
              rseal16_c key (nnI i) t1 e4 Am cm m U hkl.1 hkl.2 (nnI_len i) (nnI_lt i) (by decide) (by omega) ((Rd.below (show Rd wc wc.heap.size Am (pcs _) from hrm6) hb).more hb.size) (by have := HML.out; omega) HMK.out HCK.out)
            have HBD5 := Lib.hid (show boI key t1 e4 i m = ⟨t1, e4, nnI i, boxL key (nnI i) t1 e4 m⟩ from rfl)
            have HBO := Lib.hid (boI_ok (k := key) (t := t1) (ep := e4) (i := i) (g := m) (by omega) HCK.out)
            have HRM6 := Lib.hid hrm6
            have HW6 := Lib.hid hW6
            have HUL := Lib.hid (show us.length ≤ 6 by rw [HL.out.bv.len]; unfold bosI; rw [bosTo_len]; have := HN1.out; have := HLT.out; omega)
            have HAL := Lib.hid (show (allI gs i).length ≤ 72 by
              have h := flat_len ((List.range i).map (grI gs)) 12 (fun L hL => by
                obtain ⟨j, hj, rfl⟩ := List.mem_map.1 hL
                rw [List.mem_range] at hj
                exact Nat.le_trans (merge_len _) (greatB_no (HNG.out j hj)).1)
              rw [List.length_map, List.length_range] at h
              unfold allI
              have := HN1.out; have := HLT.out
              omega)
            have hbs : bosI k o es gs (i + 1) = bosI k o es gs i ++ [boI key t1 e4 i m] := by
              unfold bosI
              rw [bosTo_succ, HKEY.out, HE4.out, HM.out]
            have hal := allI_succ gs i
            rw [← HM.out] at hal
            have HBS := Lib.hid hbs
            have HALS := Lib.hid hal
            clear hkA hW6 hkl hatn hrm6 hbs hal HX1 HY1 HSTY HST4 HGC HRM f1 f2 c2
            clear hcell hcele
            generalize boxL key (nnI i) t1 e4 m = bd at *
            go_upto_region 18 with fail
            refine wp_region_loudTail 10 wc [75, 76] (fun kk u W => if kk = 75 then RBox t1 e4 (nnI i) bd wc.heap.size u W else BxNew t1 e4 (nnI i) bd wc.heap.size u W) (by kernel_rfl) (by kernel_rfl) (by kernel_rfl) (by exact idle2B HTK.out.1 HTK.out.2) (fun kk u w1 w2 h hb => by
              by_cases h33 : kk = 75
              · rw [if_pos h33] at h ⊢; exact h.next hb
              · rw [if_neg h33] at h ⊢; exact h.next hb) (Below.refl _ _).drew ?_
            simp only [List.take_succ_cons, List.take_zero, List.drop_succ_cons, List.drop_zero]
            repeat (first
              | (refine wpLoud_call 75 rfl [] tok 9 (fun g => #[.agg (vb key), .agg (vb (nnI i)), .string t1, .int .u32 (e4 : Int), .slice Am m.length cm]) rfl (fun _ _ h => by cases h) rfl (fun g w => by kernel_rfl) (fun g y hg => by
                  refine (HSE.out y.wd y.bel).mono ?_
                  rintro e w' ⟨u, rfl, ⟨A5, c5, e5, ho⟩, hb⟩
                  exact ⟨u, rfl, hb, ⟨A5, c5, e5, own_base_le ho y.bel.size⟩⟩) _ (by simp only [Act.put, List.setIfInBounds_toArray, List.set_cons_succ, List.set_cons_zero]; rfl) ?_)
              | (refine wpLoud_makeG 76 rfl rfl [75] rfl (fun _ _ h => by cases h) rfl (fun g x h => by
                  obtain ⟨A5, c5, e5, ho⟩ : RBox t1 e4 (nnI i) bd wc.heap.size (g 75) x.wd := h 75 (by simp)
                  exact ⟨_, _, run_oneG Tryz.underlying29 hib hb0 hb1x (by decide) (by decide) x.wd (bxV t1 e4 (nnI i) A5 bd.length c5) (bxV_size _ _ _ _ _ _ (nnI_len i)) (.tmp 75) rfl e5, (Below.refl _ _).alloc (Nat.le_refl _) _, ⟨A5, c5, x.wd.heap.size, rfl, Blk.new _ _ _, (by simp), ho.next ((Below.refl _ _).alloc (Nat.le_refl _) _)⟩⟩) _ (by simp only [Act.put, List.setIfInBounds_toArray, List.set_cons_succ, List.set_cons_zero]; rfl) ?_)
              | (refine wpLoud_plain rfl rfl rfl ?_; intro K hK; refine quiet_loadA 23 (.tmp 17) rfl ⟨g17, 0, none⟩ rfl (byt key) _ HKA.out Tryz.underlying23 rfl HKL.out _ (by simp only [Act.put, List.setIfInBounds_toArray, List.set_cons_succ, List.set_cons_zero]; rfl) ?_; go_big_quiet_on)
              | (refine wpLoud_plain rfl rfl rfl ?_; intro K hK; refine quiet_loadA 37 (.tmp 71) rfl (an.add (i * 12)) rfl (byt (nnI i)) _ HNA.out Tryz.underlying37 rfl HNL.out _ (by simp only [Act.put, List.setIfInBounds_toArray, List.set_cons_succ, List.set_cons_zero]; rfl) ?_; go_big_quiet_on)
              | (refine wpLoud_plain rfl rfl rfl ?_; intro K hK; go_big_quiet_op; go_big_quiet_on))
            refine wpLoud_end [75, 76] (by rfl) ?_
            intro gg z hg
            have h1 : BxNew t1 e4 (nnI i) bd wc.heap.size (gg 76) z.wd := hg 76 (by simp)
            have h75 : RBox t1 e4 (nnI i) bd wc.heap.size (gg 75) z.wd := hg 75 (by simp)
            have hz := z.bel
            generalize z.wd = W7 at *
            simp only [fill, Act.put, List.setIfInBounds_toArray, List.set_cons_succ, List.set_cons_zero]
            obtain ⟨Ay, cy, e75, _⟩ := h75
            have htk75 : isTok (gg 75) = false := by rw [e75]; rfl
            have HTK7 := Lib.hid (show isTok (gg 75) = false ∧ isTok (gg 76) = false from ⟨htk75, by obtain ⟨_, _, _, e76, _⟩ := h1; rw [e76]; rfl⟩)
            generalize gg 75 = v75 at *
            generalize gg 76 = v76 at *
            obtain ⟨Ab, cb, b1, rfl, hbk, hb1, hob⟩ := h1
            have hw7 : Below wr.heap.size wr W7 := HBW.out.trans (hz.mono HBW.out.size)
            have HL7 := Lib.hid (HL.out.next hw7)
            have hap0 : ∀ ad, Ab = some ad → byt bd ≠ [] → some ad.block ≠ u10.ownBlock ∧ some ad.block ≠ u11.ownBlock := by
              intro ad1 ea _
              have h2 := own_new hob rfl ad1 ea
              have h3 := HBW.out.size
              refine ⟨fun h => ?_, fun h => ?_⟩
              · have := own_lt HL.out.lo _ h.symm
                omega
              · have := own_lt HL.out.ao _ h.symm
                omega
            have HAP := Lib.hid hap0
            clear hap0
            obtain ⟨A9, c9, e9, hc9, _, r9⟩ := hob.rd
            injection e9 with e9a _ e9c
            subst e9a e9c
            have HR9 := Lib.hid r9
            have HC9 := Lib.hid hc9
            have HRB := Lib.hid (show Rd W7 (b1 + 1) (some ⟨b1, 0, none⟩) (bxL t1 e4 (nnI i) Ab bd.length cb) from fun _ => ⟨_, rfl, Nat.lt_succ_self _, atA_blk hbk⟩)
            have HRM7 := Lib.hid (show RdP W7 W7.heap.size Am m from (Rd.below (show Rd wc wc.heap.size Am (pcs _) from HRM6.out) hz).more hz.size)
            have HAM := Lib.hid (show Apart u10 Am (pcs m) from apart_new (show wr.ownsRow _ _ _ _ _ _ from HL.out.lo) (show W4.ownsRow _ _ _ _ _ _ from HOM.out) (Nat.le_refl _) rfl)
            clear hg hbk hb1 hob hz hw7 e75 htk75 r9 hc9 HSE HKA HNA HL HRM6
            refine wpList_app _ rfl (.tmp 67) (.tmp 76) _ rfl Zn.heap.size 39 ib (.agg zBx) 15 56 Tryz.underlying29 hib hb0 hb1x hb2x rfl (by decide) u10 us.length us.flatten rfl HL7.out.lo (b1 + 1) (some ⟨b1, 0, none⟩) 1 1 (bxL t1 e4 (nnI i) Ab bd.length cb) rfl (by rw [bxL_len _ _ _ _ _ (nnI_len i)]) HRB.out (bx_oneCell _ _ _ _ _ _) (by have := HUL.out; omega) (by have := HUL.out; omega) HL7.out.bel.size ?_
            intro v9 W9 hap
            have HL9 := Lib.hid (OpL.box (b := ⟨t1, e4, nnI i, bd⟩) HL7.out hap HC9.out HR9.out HAP.out (by have := HBO.out; rw [HBD5.out] at this; exact this))
            have HRM9 := Lib.hid (show RdP W9 W9.heap.size Am m from (Rd.appended (show Rd W7 W7.heap.size Am (pcs m) from HRM7.out) HAM.out hap.grown hap.lies).1)
            clear hap HL7 HR9 HC9 HAP HRB HRM7 HAM
            simp only [Act.put, List.setIfInBounds_toArray, List.set_cons_succ, List.set_cons_zero]
            obtain ⟨us9, hus9⟩ : ∃ us9, us9 = us ++ [bxL t1 e4 (nnI i) Ab bd.length cb] := ⟨_, rfl⟩
            obtain ⟨bs9, hbs9⟩ : ∃ bs9, bs9 = bosI k o es gs (i + 1) := ⟨_, rfl⟩
            obtain ⟨al9, hal9⟩ : ∃ al9, al9 = allI gs i := ⟨_, rfl⟩
            have HL9' := Lib.hid (show OpL Zn W9 v9 u11 us9 bs9 al9 by
              have h := HL9.out
              rw [hus9, hbs9, hal9, HBS.out, HBD5.out]
              exact h)
            have HBS9 := Lib.hid hbs9
            have HAL9 := Lib.hid (show al9 ++ m = allI gs (i + 1) by rw [hal9, HALS.out])
            have HALN := Lib.hid (show al9.length ≤ 72 by rw [hal9]; exact HAL.out)
            clear HL9 hus9 hbs9 hal9 HBS HALS HAL HBD5 HBO HUL
            go_upto_region 20 with (at_builtin; refine wpList_app _ rfl (.tmp 78) (.tmp 79) _ rfl Zn.heap.size 58 i0 (.agg zPc) 5 48 Tryz.underlying30 hi hz0 hz1 hz2 rfl (by decide) u11 al9.length (pcs al9) rfl HL9'.out.ao W9.heap.size Am m.length cm (pcs m) rfl (pcs_len _) (show Rd W9 W9.heap.size Am (pcs m) from HRM9.out) (pcs_oneCell _) (by have := HALN.out; have := HML.out; omega) (by have := HALN.out; have := HML.out; omega) HL9'.out.bel.size ?_
                                    intro v10 W10 hap
                                    have HL10 := Lib.hid (OpL.pcs HL9'.out hap)
                                    clear hap)
            clear HL9' HRM9
            have HNG1 := Lib.hid (show ∀ j, j < i + 1 → greatB (gs.getD j []) 12 = false from fun j hj => by
              rcases Nat.lt_or_ge j i with h | h
              · exact HNG.out j h
              · obtain rfl : j = i := by omega
                exact HGR.out)
            have hrel9 : ∃ us', OpL Zn W10 v9 v10 us' (bosI k o es gs (i + 1)) (allI gs (i + 1)) := ⟨us9, by
              have h := HL10.out
              rw [HBS9.out, HAL9.out] at h
              exact h⟩
            have HREL := Lib.hid hrel9
            clear hrel9 HL10 HBS9 HAL9 HALN
            have hb9 : badTo (epI es) (i + 1) = if badTo (epI es) i = 0 ∧ e4 ≠ 1 ∧ e4 ≠ 2 then 11 else badTo (epI es) i := by rw [badTo, HE4.out]
            have HB9 := Lib.hid hb9
            clear hb9
            by_cases h1 : e4 = 1
            · have s1 : ((e4 : Int) != 1) = false := by rw [h1]; rfl
              have HBN := Lib.hid (show badTo (epI es) (i + 1) = badTo (epI es) i by rw [HB9.out, if_neg (fun h => h.2.1 h1)])
              clear h1
              go_wp2_with fail
              go_roundw
              case rel => exact ⟨HTK7.out, i + 1, HLT.out, by go_num, HREL.out, by rw [HBN.out]; exact HBD.out, HNG1.out⟩
              case measure => have := HLT.out; simp [intOf]; omega
            · have s1 : ((e4 : Int) != 1) = true := by
                rw [bne_iff_ne]; omega
              by_cases h2 : e4 = 2
              · have s2 : ((e4 : Int) != 2) = false := by rw [h2]; rfl
                have HBN := Lib.hid (show badTo (epI es) (i + 1) = badTo (epI es) i by rw [HB9.out, if_neg (fun h => h.2.2 h2)])
                clear h1 h2
                go_wp2_with fail
                go_roundw
                case rel => exact ⟨HTK7.out, i + 1, HLT.out, by go_num, HREL.out, by rw [HBN.out]; exact HBD.out, HNG1.out⟩
                case measure => have := HLT.out; simp [intOf]; omega
              · have s2 : ((e4 : Int) != 2) = true := by
                  rw [bne_iff_ne]; omega
                rcases HBD.out with ⟨rfl, hbz⟩ | ⟨rfl, hbz⟩
                · have HBN := Lib.hid (show badTo (epI es) (i + 1) = 11 by rw [HB9.out, if_pos ⟨hbz, h1, h2⟩])
                  clear h1 h2 hbz HBD
                  go_wp2_with fail
                  go_roundw
                  case rel => exact ⟨HTK7.out, i + 1, HLT.out, by go_num, HREL.out, .inr ⟨rfl, HBN.out⟩, HNG1.out⟩
                  case measure => have := HLT.out; simp [intOf]; omega
                · have HBN := Lib.hid (show badTo (epI es) (i + 1) = 11 by rw [HB9.out, if_neg (fun h => by have := h.1; omega), hbz])
                  clear h1 h2 hbz HBD
                  go_wp2_with fail
                  go_roundw
                  case rel => exact ⟨HTK7.out, i + 1, HLT.out, by go_num, HREL.out, .inr ⟨rfl, HBN.out⟩, HNG1.out⟩
                  case measure => have := HLT.out; simp [intOf]; omega
      · obtain rfl : i = gs.length := by omega
        have r1 : ¬ (gs.length : Int) < (gs.length : Int) := by omega
        have hGok : ∀ j, j < gs.length → chkL (grI gs j) = 0 ∧ (grI gs j).length ≤ 12 ∧ ∀ p ∈ grI gs j, PcOk p ∧ p.s.size ≤ 400 := fun j hj => by
          obtain ⟨h1, h2⟩ := greatB_no (hng j hj)
          have hgm : gs.getD j [] ∈ gs := by rw [List.getD_eq_getElem?_getD, List.getElem?_eq_getElem hj]; exact List.getElem_mem hj
          have hml : (grI gs j).length ≤ 12 := Nat.le_trans (merge_len _) h1
          refine ⟨chk_small _ (merge_sorted _) (fun p hp => ((mem_merge _ p).1 hp).2.1) hml, hml, fun p hp => ?_⟩
          have hp2 := merge_sub _ p hp
          exact ⟨((HGP.out _ hgm).2 p hp2).1, h2 p hp2⟩
        have hkey : ∀ j, (keyI k o es j).length = 32 ∧ ∀ c ∈ keyI k o es j, c < 256 := fun j => by
          unfold keyI
          split
          · exact ⟨HO.out, HOB.out⟩
          · exact ⟨HK.out, HKB.out⟩
        have hops : ∀ b ∈ bosI k o es gs gs.length, OpOk (kf2 k o) b := fun b hb => by
          obtain ⟨j, hj, rfl⟩ := bosTo_mem hb
          obtain ⟨h1, h2, h3⟩ := hGok j hj
          refine opOk_boI (fun k' hk' => ?_) (hkey j).1 (hkey j).2 (by decide) (by unfold epI; omega) t1_name h1 (by omega) (fun p hp => ⟨(h3 p hp).1, by have := (h3 p hp).2; omega⟩)
          unfold kf2 at hk'
          unfold keyI
          split at hk'
          · rename_i h; rw [if_pos h]; injection hk' with hk'; exact hk'.symm
          · rename_i h; rw [if_neg h]
            split at hk'
            · injection hk' with hk'; exact hk'.symm
            · cases hk'
        have hlen : (bosI k o es gs gs.length).length = gs.length := bosTo_len ..
        obtain ⟨Ax, cx, rfl, hcx, _, hrx⟩ := hL.lo.rd hL.bv.bv
        obtain ⟨Av, cv, rfl, hcv, _, hrv⟩ := hL.ao.rd
        have HSTW := Lib.hid (HST.out.next hL.bel)
        have hopn := bopen_c Ax cx (bosI k o es gs gs.length) kb 2 (kf2 k o) wr hrx (by rw [hlen]; have := HN1.out; omega) HSTW.out.km hops HSTW.out.q
        have halL : (allI gs gs.length).length ≤ 72 := by
          have h := flat_len ((List.range gs.length).map (grI gs)) 12 (fun L hL => by
            obtain ⟨j, hj, rfl⟩ := List.mem_map.1 hL
            rw [List.mem_range] at hj
            exact (hGok j hj).2.1)
          rw [List.length_map, List.length_range] at h
          unfold allI
          have := HN1.out
          omega
        have halP : ∀ p ∈ allI gs gs.length, PcOk p ∧ p.s.size ≤ 9223372036854775807 := fun p hp => by
          unfold allI at hp
          obtain ⟨L, hL, hpL⟩ := List.mem_flatten.1 hp
          obtain ⟨j, hj, rfl⟩ := List.mem_map.1 hL
          rw [List.mem_range] at hj
          have h := (hGok j hj).2.2 p hpL
          exact ⟨h.1, by omega⟩
        have HALP := Lib.hid halP
        have HALL := Lib.hid halL
        have HB := Lib.hid (HST.out.kb2.bel.trans (hL.bel.mono HST.out.kb2.bel.size))
        have HXR := Lib.hid hrx
        have HVR := Lib.hid hrv
        have HLEN := Lib.hid hlen
        rcases hbad with ⟨rfl, hbz⟩ | ⟨rfl, hbz⟩
        · have hno := badTo_no _ _ hbz
          have hkf : ∀ j, j < gs.length → kf2 k o (epI es j) = some (keyI k o es j) := fun j hj => by
            unfold kf2 keyI
            rcases hno j hj with h | h
            · rw [h]; rfl
            · rw [h]; rfl
          have hop2 : Calls Tryz.prog 10 #[.map (some kb), .slice Ax gs.length cx] wr fun e w' => ∃ v, e = .returned (.tuple #[v, .int .i64 0]) ∧ OwnP w' wr.heap.size v (mergeL (allI gs gs.length)) ∧ Below wr.heap.size wr w' := by
            rw [hlen] at hopn
            refine hopn.mono ?_
            rintro e w' ⟨h, hb⟩
            rcases h with ⟨⟨b, hb1, hb2⟩, _⟩ | ⟨_, v, e1, h1⟩
            · obtain ⟨j, hj, rfl⟩ := bosTo_mem hb1
              have h3 : kf2 k o (epI es j) = none := hb2
              rw [hkf j hj] at h3
              cases h3
            · rw [show (bosI k o es gs gs.length).map (opB (kf2 k o)) = (List.range gs.length).map (grI gs) from opB_all hkf t1_name (fun j hj => ⟨(hGok j hj).1, fun p hp => ((hGok j hj).2.2 p hp).1⟩)] at h1
              exact ⟨v, e1, h1, hb⟩
          have HOP := Lib.hid hop2
          have HRM := Lib.hid (fun W (hb : Below wr.heap.size wr W) => rmerge_c Av cv (allI gs gs.length) W (Rd.ups (Rd.below (show Rd wr wr.heap.size Av (pcs _) from hrv) hb) hb.size) (by omega) halP)
          have hbl : (bosI k o es gs gs.length).length ≤ 1000 := by rw [hlen]; have := HN1.out; omega
          have HBE := Lib.hid (fun W (hb : Below wr.heap.size wr W) => show Calls Tryz.prog 12 #[.slice Ax gs.length cx, .int .u32 2] W fun e w' => e = .returned (.int .i64 (belN (bosI k o es gs gs.length) 2 gs.length : Nat)) ∧ Below W.heap.size W w' by
            have h := below17_c Ax cx (bosI k o es gs gs.length) 2 W (hrx.next hb) hbl
            rw [hlen] at h
            exact h)
          obtain ⟨bs, hbs⟩ : ∃ bs, bs = bosI k o es gs gs.length := ⟨_, rfl⟩
          obtain ⟨al, hal⟩ : ∃ al, al = allI gs gs.length := ⟨_, rfl⟩
          rw [← hbs] at HXR HLEN HBE
          rw [← hal] at HVR HALP HALL HOP HRM
          have HML := Lib.hid (show (mergeL al).length ≤ 72 from Nat.le_trans (merge_len _) HALL.out)
          have m1 : (gs.length : Int) ≤ 6 := by have := HN1.out; omega
          rw [hlen]
          rw [← hal]
          clear hopn hop2 hkf hno hbz hbs hal halL halP hcx hrx hcv hrv hlen hops hkey hGok hL hng hbl hlt hil
          go_upto_region 25 with (go_at_call 10; (with_reducible refine HOP.out.mono ?_); rintro e W2 ⟨v, rfl, ho, hb⟩; obtain ⟨A2, c2, rfl, hc2, _, hr2⟩ := ho.rd; have HB2 := Lib.hid hb; have HR2 := Lib.hid hr2; clear ho hb hc2 hr2)
          go_wp2_with fail
          go_loopw [20, 21] (fun nv jv wq => ∃ j : Nat, j ≤ gs.length ∧ jv = .int .i64 (j : Nat) ∧ (∃ m : Nat, m = belN bs 2 j ∧ nv = .int .i64 (m : Nat)) ∧ wq = W2) (fun _ jv _ => gs.length - (intOf jv).toNat)
          case atStart => exact ⟨0, Nat.zero_le _, rfl, ⟨0, rfl, rfl⟩, rfl⟩
          case round =>
            rename World => wq
            obtain ⟨j, hj, rfl, ⟨m, hm, rfl⟩, rfl⟩ := hrel
            by_cases hlt : j < gs.length
            · have q1x : (j : Int) < (gs.length : Int) := by omega
              obtain ⟨ad, Ai, ci, rfl, hab, hat, _, _, hok⟩ := (HXR.out.next HB2.out).box (i := j) (by rw [HLEN.out]; exact hlt)
              have hmle := belN_le bs 2 j
              have hmn : belN bs 2 (j + 1) = m + if (bs.getD j bo0).ep < 2 then 1 else 0 := by rw [belN, hm]
              have c1 : wq.cell? ⟨(ad.add (j * 15)).block, (ad.add (j * 15)).off + 1, none⟩ = some (.int .u32 ((bs.getD j bo0).ep : Int)) := hat 1 _ rfl
              generalize (bs.getD j bo0).ep = be at *
              have m2 : (m : Int) ≤ 6 := by omega
              have m3 : (j : Int) ≤ 6 := by omega
              have HJ := Lib.hid hlt
              by_cases hlt2 : be < 2
              · have q2x : (be : Int) < 2 := by omega
                rw [if_pos hlt2] at hmn
                have HM2 := Lib.hid hmn
                clear hmn hlt2 hm hat hab hok hlt hj hmle
                go_wp2_with fail
                go_roundw
                case rel => exact ⟨j + 1, HJ.out, by go_num, ⟨m + 1, HM2.out.symm, by go_num⟩, by trivial⟩
                case measure => have := HJ.out; simp [intOf]; omega
              · have q2x : ¬ (be : Int) < 2 := by omega
                rw [if_neg hlt2] at hmn
                have HM2 := Lib.hid hmn
                clear hmn hlt2 hm hat hab hok hlt hj hmle
                go_wp2_with fail
                go_roundw
                case rel => exact ⟨j + 1, HJ.out, by go_num, ⟨m, HM2.out.symm, rfl⟩, by trivial⟩
                case measure => have := HJ.out; simp [intOf]; omega
            · obtain rfl : j = gs.length := by omega
              have HBE2 := Lib.hid (fun W (hb : Below wr.heap.size wr W) => show Calls Tryz.prog 12 #[.slice Ax gs.length cx, .int .u32 2] W fun e w' => e = .returned (.int .i64 (m : Nat)) ∧ Below W.heap.size W w' by
                have h := HBE.out W hb
                rw [← hm] at h
                exact h)
              have HRMW := Lib.hid (HRM.out wq HB2.out)
              have HMM := Lib.hid (fun (A2 A3 : Option Addr) (c2 c3 : Nat) (W : World) (h2 : RdP W W.heap.size A2 (mergeL al)) (h3 : RdP W W.heap.size A3 (mergeL al)) => rsameP_c W.heap.size W.heap.size A2 A3 c2 c3 (mergeL al) W h2 h3 (by have := HML.out; omega))
              generalize mergeL al = ml at *
              clear hm hlt hj HBE HRM HOP
              go_wp2_with (first
                | (go_at_call 8; (with_reducible refine HRMW.out.mono ?_); rintro e W3 ⟨v, rfl, ho, hb⟩; obtain ⟨A3, c3, rfl, hc3, _, hr3⟩ := ho.rd; have HB3 := Lib.hid (HB2.out.trans (hb.mono HB2.out.size)); have HSM := Lib.hid (HMM.out A2 A3 c2 c3 W3 ((Rd.below (show Rd wq wq.heap.size A2 (pcs _) from HR2.out) hb).more hb.size) hr3); clear ho hb hc3 hr3)
                | (go_at_call 11; (with_reducible refine HSM.out.mono ?_); rintro e W4 ⟨rfl, nn, hd⟩; have HB4 := Lib.hid (show Below wr.heap.size wr W4 by rw [hd]; exact belowDrewN nn HB3.out); have HBW := Lib.hid (HBE2.out W4 HB4.out); clear hd)
                | (go_at_call 12; (with_reducible refine HBW.out.mono ?_); rintro e W5 ⟨rfl, hb⟩; have HB5 := Lib.hid (HB4.out.trans (hb.mono HB4.out.size)); have HAW := Lib.hid (awake17_c W5); clear hb)
                | (go_at_call 5; (with_reducible refine HAW.out.mono ?_); rintro e W9 ⟨rfl, hb⟩; have HB9 := Lib.hid (HB5.out.trans (hb.mono HB5.out.size)); clear hb))
              go_ret
              exact ⟨rfl, HB.out.trans (HB9.out.mono HB.out.size)⟩
        · obtain ⟨j, hj, hj1, hj2⟩ := badTo_yes _ _ (show badTo (epI es) gs.length ≠ 0 by rw [hbz]; decide)
          have hop2 : Calls Tryz.prog 10 #[.map (some kb), .slice Ax gs.length cx] wr fun e w' => e = .returned (.tuple #[.slice none 0 0, .int .i64 11]) ∧ Below wr.heap.size wr w' := by
            rw [hlen] at hopn
            refine hopn.mono ?_
            rintro e w' ⟨h, hb⟩
            rcases h with ⟨_, e1⟩ | ⟨h, _⟩
            · exact ⟨e1, hb⟩
            · refine absurd ?_ (h (boI (keyI k o es j) t1 (epI es j) j (grI gs j)) (List.mem_map.2 ⟨j, List.mem_range.2 hj, rfl⟩))
              show kf2 k o (epI es j) = none
              unfold kf2
              rw [if_neg hj2, if_neg hj1]
          have HOP := Lib.hid hop2
          rw [hlen]
          clear hopn hop2 hbz hj hj1 hj2 halL halP hcx hrx hcv hrv hlen hops hkey hGok hL hng hlt hil
          go_wp2_with (first
            | (go_at_call 10; (with_reducible refine HOP.out.mono ?_); rintro e W2 ⟨rfl, hb⟩; have HB2 := Lib.hid (HB.out.trans (hb.mono HB.out.size)); have HAW := Lib.hid (awake17_c W2); clear hb)
            | (go_at_call 5; (with_reducible refine HAW.out.mono ?_); rintro e W9 ⟨rfl, hb⟩; have HB9 := Lib.hid (HB2.out.trans (hb.mono HB2.out.size)); clear hb))
          go_ret
          exact ⟨rfl, HB9.out⟩
end Go.Proofs.YtlkcpbmbhbogoaaGreatDoor
namespace Go.Proofs.YtlkcpbmbhbogoaaGreatDoor
set_option linter.unusedVariables false
set_option linter.unusedSimpArgs false
open Go Go.ChangeShapes Go.WideShapes Go.ChangeAt Go.RowKit
set_option maxRecDepth 100000 in
theorem blockOpens_lifted (os : Os) (started : os.Started) (H : Type) (enc : TypeId × Value → H) :
    ReturnsInHanded {} Tryz.checked os 3 .any (fun w args => (Rows.blockOpensSpec.pre enc Tryz.prog Tryz.f3 [] false w args ∧ laidMetH Tryz.prog laidQ w) ∧ sizedMet enc Tryz.prog Tryz.f3 (OpenSpec.ofChange Rows.blockOpensSpec) false w args) (Rows.blockOpensSpec.post enc Tryz.prog Tryz.f3 false true false false) := by
  refine liftQ started _ rfl (by kernel_rfl) Tryz.func3 ⟨rfl, fun H ds h => ?_⟩ rfl (of_decide_eq_true (by kernel_rfl))
    (ChangeSpec.witness_shaped (enc := enc) (C := Tryz.checked) (os := os) (X := fun w _ => laidMetH Tryz.prog laidQ w) false (World.doorLaid Tryz.prog 400 os) #[.agg (Array.replicate 32 (.int .u8 0)), .agg (Array.replicate 32 (.int .u8 0)), .slice none 0 0, .slice none 0 0] 8 rfl (World.shaped_of_RefB (by kernel_rfl) (by kernel_rfl)) (by kernel_rfl) (by kernel_rfl) (by kernel_rfl) (door_met os _)) ?_
  · match ds, h with
    | [_, _, _, _], _ => rfl
  · intro W base args ds ps hq hval hA hlt
    rw [Tryz.params3] at hA hval
    obtain ⟨v0, vs0, d0, ds0, p0, q0, hargs, rfl, rfl, h0, r0⟩ := trodAll_cons hA
    obtain ⟨v1, vs1, d1, ds1, p1, q1, rfl, rfl, rfl, h1, r1⟩ := trodAll_cons r0
    obtain ⟨v2, vs2, d2, ds2, p2, q2, rfl, rfl, rfl, h2, r2⟩ := trodAll_cons r1
    obtain ⟨v3, vs3, d3, ds3, p3, q3, rfl, rfl, rfl, h3, r3⟩ := trodAll_cons r2
    obtain ⟨rfl, rfl, rfl⟩ := trodAll_nil r3
    obtain rfl : args = #[v0, v1, v2, v3] := by cases args; simp_all
    obtain ⟨k0, rfl, kl0, ks0⟩ := open_key (hval 0 23 v0 rfl rfl) h0
    obtain ⟨k1, rfl, kl1, ks1⟩ := open_key (hval 1 23 v1 rfl rfl) h1
    obtain ⟨A2, l2, cap2, rfl, hc2, hm2, hl2, hr2⟩ := open_groups (hval 2 24 v2 rfl rfl) h2
    obtain ⟨A3, l3, cap3, rfl, hl3, hr3, hm3⟩ := open_bytes (hval 3 25 v3 rfl rfl) h3
    have hc3 := cap_bytes h3
    exact opens_c k0 k1 A2 cap2 l2 A3 cap3 l3 W kl0 ks0 kl1 ks1 hr2 hm2 hl2 hr3 hl3 (by simpa [maxLen] using hm3) hq
theorem blockOpens_row : Rows.BlockOpensSaid :=
  OpenClaim.holds_of_wide 3 Tryz.f3 rfl rfl rfl rfl rfl rfl rfl ⟨rfl, rfl, rfl, rfl, rfl⟩ rfl rfl rfl rfl rfl (by kernel_rfl) Tryz.func3 (by kernel_rfl)
    (of_decide_eq_true (by kernel_rfl)) (by unfold Func.isWrapper; rw [if_neg (by decide +kernel)]; exact ⟨rfl, rfl⟩)
    (fun os started H enc _ => blockOpens_lifted os started H enc)
theorem blockOpens_holds : Rows.BlockOpensCardSaid :=
  Claim7.holds_tied_plain_at .later [] [.data] true (true, "b821cf76cdbc9da2b8f7e9936eeca616e08053e2640eda9ff3ca9141380202db") false
    blockOpens_row (fun _ h => by cases h) (by kernel_rfl) (fun _ h => by cases h) blockOpens_row_tie rfl ⟨rfl, rfl⟩ (by kernel_rfl) rfl
    (fun f fn hf hfn => by
      obtain rfl : f = 3 := Option.some.inj ((show Tryz.prog.funcNamed "quaestor/quaestorlaw17.BlockOpens" = some 3 by kernel_rfl).symm.trans hf) |>.symm
      obtain rfl : fn = Tryz.f3 := (Option.some.inj (Tryz.func3.symm.trans hfn)).symm
      exact ⟨by kernel_rfl, fun j t ht => by
        rw [Tryz.params3] at ht
        have hm : t ∈ [23, 23, 24, 25] := by simpa using Array.mem_of_getElem? ht
        have hall : ([23, 23, 24, 25].all fun u => !Tryz.prog.wantsStandIn u) = true := by kernel_rfl
        exact (show Tryz.prog.wantsStandIn t = false by simpa using List.all_eq_true.1 hall t hm)⟩)
    (by kernel_rfl)
#print axioms blockOpens_holds
end Go.Proofs.YtlkcpbmbhbogoaaGreatDoor
