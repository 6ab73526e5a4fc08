/- BoxWraps returns true for any key, nonce, tenant, epoch, wrapped key and bytes. Conditions: the table of the quarters is as its initialiser lays it. -/
import Derived.Test.YtaikejlcpnelpaaDoorZ10
import Derived.Test.YtaikejlcpnelpaaDoorTie
import Derived.Test.YtaikejlcpnelpaaDoorCards
import Derived.SevenTiedAt
/- Contracts: a key is wrapped, unwrapped. -/
namespace Go.Proofs.YtaikejlcpnelpaaDoor
open Go.RowKit
set_option linter.unusedVariables false
set_option linter.unusedSimpArgs false
/-- the boxes of wrapping -/
structure Wbx (w W : World) (k nn key : List Nat) : Prop where
  kb : Kbx w W k nn
  r : Blk W (w.heap.size + 1 + 1) 23 (vb key)
theorem Wbx.next {w W W' : World} {k nn key : List Nat} (s : Wbx w W k nn key) (hb : Below W.heap.size W W') : Wbx w W' k nn key := ⟨s.kb.next (hb.mono s.kb.sz), s.r.below hb s.r.lt⟩
theorem Wbx.begin (w : World) (k nn key : List Nat) : Wbx w (((w.alloc (Obj.cells (vb k) 23)).alloc (Obj.cells (vb nn) 25)).alloc (Obj.cells (vb key) 23)) k nn key := by
  have h1 := Kbx.begin w k nn
  have h2 : Below ((w.alloc (Obj.cells (vb k) 23)).alloc (Obj.cells (vb nn) 25)).heap.size ((w.alloc (Obj.cells (vb k) 23)).alloc (Obj.cells (vb nn) 25)) (((w.alloc (Obj.cells (vb k) 23)).alloc (Obj.cells (vb nn) 25)).alloc (Obj.cells (vb key) 23)) := (Below.refl _ _).alloc (Nat.le_refl _) _
  refine ⟨h1.next (h2.mono h1.sz), ?_⟩
  have h3 := Blk.new ((w.alloc (Obj.cells (vb k) 23)).alloc (Obj.cells (vb nn) 25)) 23 (vb key)
  simpa using h3
theorem Wbx.rd {w W : World} {k nn key : List Nat} (s : Wbx w W k nn key) : Rd W W.heap.size (some ⟨w.heap.size + 1 + 1, 0, none⟩) (byt key) := Rd.ups (rd_blk s.r (byt key) key.length (by show byt key = (byt key).take key.length; rw [List.take_of_length_le (by rw [byt_len]; exact Nat.le_refl _)])) s.r.lt
def wrapL (k nn : List Nat) (t : ByteArray) (ep : Nat) (key : List Nat) : List Nat := sealL k nn (besideL 75 t ep) key
set_option maxRecDepth 100000 in
set_option maxHeartbeats 4000000 in
theorem wrap_c (k nn key : List Nat) (t : ByteArray) (ep : Nat) (w : World) (hk : k.length = 32) (hkl : ∀ c ∈ k, c < 256) (hn : nn.length = 12) (hnl : ∀ c ∈ nn, c < 256) (hy : key.length = 32) (hyl : ∀ c ∈ key, c < 256) (ht : t.size ≤ 1000) (he : ep < 4294967296) (hq : QuartersAt w) :
    Calls Tryd.prog 24 #[.agg (vb k), .agg (vb nn), .string t, .int .u32 (ep : Nat), .agg (vb key)] w (Gives (wrapL k nn t ep key) w) := by
  have HBX := Lib.hid (Wbx.begin w k nn key)
  have hbl := beside_len 75 t ep
  have HBS := Lib.hid (fun W => beside_c 75 t ep W he (by omega))
  have HSC := Lib.hid (fun W A1 A2 c1 c2 (hb : Below w.heap.size w W) (hr1 : Rd W W.heap.size A1 (byt (besideL 75 t ep))) (hr2 : Rd W W.heap.size A2 (byt key)) => seal_c A1 A2 c1 c2 k nn (besideL 75 t ep) key W hk hkl hn hnl hr1 hr2 (beside_lt 75 t ep (by decide)) hyl (by omega) (by omega) (hq.next hb))
  have HSB := Lib.hid (show sealL k nn (besideL 75 t ep) key = wrapL k nn t ep key from rfl)
  rw [HSB.out, hy] at HSC
  obtain ⟨bs, hbs⟩ : ∃ bs, bs = besideL 75 t ep := ⟨_, rfl⟩
  rw [← hbs] at HBS HSC
  have HNL := Lib.hid (show (Tryd.prog.info? 25).map (·.size) = some (vb nn).toList.length by rw [Array.length_toList]; exact nnSz hn)
  have HKL := Lib.hid (show (Tryd.prog.info? 23).map (·.size) = some (vb k).toList.length by rw [Array.length_toList]; exact keySz hk)
  generalize wrapL k nn t ep key = body at *
  clear hkl hnl hyl hq hbl hbs HSB
  go_enter Tryd.func24, Tryd.ntmps24
  go_upto_region 1 with (first
    | (refine Go.Great.wpList_boxTo rfl 23 (.tmp 0) rfl (some 5) rfl w.heap.size rfl (vb k) rfl ?_)
    | (refine Go.Great.wpList_boxTo rfl 25 (.tmp 1) rfl (some 6) rfl (w.heap.size + 1) (by simp) (vb nn) rfl ?_)
    | (refine Go.Great.wpList_boxTo rfl 23 (.tmp 4) rfl (some 9) rfl (w.heap.size + 1 + 1) (by simp) (vb key) rfl ?_))
  generalize ((w.alloc (Obj.cells (vb k) 23)).alloc (Obj.cells (vb nn) 25)).alloc (Obj.cells (vb key) 23) = W2 at *
  refine wp_region_loud W2 [18, 20, 13, 21, 11] (fun k u W => if k = 18 then OwnB W W2.heap.size u bs else if k = 20 ∨ k = 13 then (∃ v, u = .tuple #[v, .int .i64 0] ∧ OwnB W W2.heap.size v body) else OwnB W W2.heap.size u body) (by kernel_rfl) (by kernel_rfl) (by kernel_rfl) (by kernel_rfl) (fun k u w1 w2 h hb => by
    by_cases h33 : k = 18
    · rw [if_pos h33] at h ⊢; exact OwnB.next h hb
    · rw [if_neg h33] at h ⊢
      by_cases h35 : k = 20 ∨ k = 13
      · rw [if_pos h35] at h ⊢; obtain ⟨v, e, h⟩ := h; exact ⟨v, e, OwnB.next h hb⟩
      · rw [if_neg h35] at h ⊢; exact OwnB.next h hb) (Below.refl _ _).drew ?_
  repeat (first
    | (refine wpLoud_loadB rfl rfl 23 (.tmp 5) rfl w.heap.size 0 rfl (vb k) _ (fun z => by have h2 := rangeAt_blk (HBX.out.kb.kA.below z.bel HBX.out.kb.kA.lt); simpa [vb] using h2) Tryd.underlying23 rfl HKL.out _ (by simp only [Act.put, List.setIfInBounds_toArray, List.set_cons_succ, List.set_cons_zero]; rfl) ?_)
    | (refine wpLoud_loadB rfl rfl 25 (.tmp 6) rfl (w.heap.size + 1) 0 rfl (vb nn) _ (fun z => by have h2 := rangeAt_blk (HBX.out.kb.nA.below z.bel HBX.out.kb.nA.lt); simpa [vb] using h2) Tryd.underlying25 rfl HNL.out _ (by simp only [Act.put, List.setIfInBounds_toArray, List.set_cons_succ, List.set_cons_zero]; rfl) ?_)
    | (refine wpLoud_call 18 rfl [] tok 31 (fun g => #[.int .u8 75, .string t, .int .u32 (ep : Int)]) rfl (fun _ _ h => by cases h) rfl (fun g w => by kernel_rfl) (fun g y hg => by
        refine (HBS.out y.wd).mono ?_
        rintro e w' ⟨u, rfl, ho, hb⟩
        exact ⟨u, rfl, hb, own_base_le ho y.bel.size⟩) _ (by simp only [Act.put, List.setIfInBounds_toArray, List.set_cons_succ, List.set_cons_zero]; rfl) ?_)
    | (refine wpLoud_call 20 rfl [18] tok 30 (fun g => #[.agg (vb k), .agg (vb nn), g 18, .slice (some ⟨w.heap.size + 1 + 1, 0, none⟩) 32 32]) rfl (fun _ _ h => by cases h) rfl (fun g w => by kernel_rfl) (fun g y hg => by
        have h33 : OwnB y.wd W2.heap.size (g 18) bs := hg 18 (by simp)
        obtain ⟨A3, c3, e3, _, _, r3⟩ := h33.rd
        show Calls _ _ #[_, _, g 18, _] _ _
        rw [e3]
        refine (HSC.out y.wd A3 _ c3 32 (HBX.out.kb.bel.trans (y.bel.mono HBX.out.kb.bel.size)) r3 (Rd.ups (Rd.below HBX.out.rd y.bel) y.bel.size)).mono ?_
        rintro e w' ⟨v, rfl, ho, hb⟩
        exact ⟨_, rfl, hb, ⟨v, rfl, own_base_le ho y.bel.size⟩⟩) _ (by simp only [Act.put, List.setIfInBounds_toArray, List.set_cons_succ, List.set_cons_zero]; rfl) ?_)
    | (refine wpLoud_move rfl 20 13 (.inr rfl) rfl rfl rfl rfl (fun u w h => h) _ (by simp only [Act.put, List.setIfInBounds_toArray, List.set_cons_succ, List.set_cons_zero]; rfl) ?_)
    | (refine wpLoud_makeG 21 rfl rfl [13] rfl (fun _ _ h => by cases h) rfl (fun g x h => by
        obtain ⟨v, e, ho⟩ : ∃ v, g 13 = .tuple #[v, .int .i64 0] ∧ OwnB x.wd W2.heap.size v body := h 13 (by simp)
        exact ⟨v, x.wd, run_ext _ _ (.tmp 13) 0 rfl _ v e rfl _, Below.refl _ _, ho⟩) _ (by simp only [Act.put, List.setIfInBounds_toArray, List.set_cons_succ, List.set_cons_zero]; rfl) ?_)
    | (refine wpLoud_valN 22 rfl rfl [13] (.int .i64 0) rfl (fun _ _ h => by cases h) rfl (fun g x h => by
        obtain ⟨v, e, ho⟩ : ∃ v, g 13 = .tuple #[v, .int .i64 0] ∧ OwnB x.wd W2.heap.size v body := h 13 (by simp)
        exact run_ext _ _ (.tmp 13) 1 rfl _ _ e rfl _) _ (by simp only [Act.put, List.setIfInBounds_toArray, List.set_cons_succ, List.set_cons_zero]; rfl) ?_)
    | (refine wpLoud_move rfl 21 11 (.inl rfl) rfl rfl rfl rfl (fun u w h => h) _ (by simp only [Act.put, List.setIfInBounds_toArray, List.set_cons_succ, List.set_cons_zero]; rfl) ?_)
    | (refine wpLoud_plain rfl rfl rfl ?_; intro K hK; go_big_quiet_op; go_big_quiet_on))
  refine wpLoud_end [18, 20, 13, 21, 11] (by rfl) ?_
  intro gg z hg
  have h35 : OwnB z.wd W2.heap.size (gg 11) body := hg 11 (by simp)
  have HO5 := Lib.hid h35
  have HX5 := Lib.hid (HBX.out.next z.bel)
  generalize z.wd = Y at *
  simp only [fill, Act.put, List.setIfInBounds_toArray, List.set_cons_succ, List.set_cons_zero]
  clear hg h35
  generalize gg 18 = x33 at *
  generalize gg 20 = x35 at *
  generalize gg 13 = x28 at *
  generalize gg 21 = x36 at *
  generalize gg 11 = x11 at *
  go_wp2_with fail
  go_ret
  exact ⟨_, rfl, own_base_le HO5.out HBX.out.kb.bel.size, HX5.out.kb.bel⟩
def z32 : List Nat := List.replicate 32 0
theorem zero_keyX (w : World) : (zeroValue 23).run Tryd.prog w = .ok (.agg (vb z32)) w := by kernel_rfl
/-- the error of unwrapping -/
def unE (k nn : List Nat) (t : ByteArray) (ep : Nat) (b : List Nat) : Nat := if b.length = 48 then openErr k nn (besideL 75 t ep) b else 4
def unL (k nn : List Nat) (t : ByteArray) (ep : Nat) (b : List Nat) : List Nat := if unE k nn t ep b = 0 then openL k nn (besideL 75 t ep) b else z32
theorem unL_len (k nn : List Nat) (t : ByteArray) (ep : Nat) (b : List Nat) : (unL k nn t ep b).length = 32 := by
  unfold unL
  by_cases h : unE k nn t ep b = 0
  · rw [if_pos h]
    unfold unE at h
    by_cases h2 : b.length = 48
    · rw [if_pos h2] at h
      unfold openL
      rw [if_pos h, xorL_len, List.length_take]; omega
    · rw [if_neg h2] at h; cases h
  · rw [if_neg h]; rfl
def UnR (k nn : List Nat) (t : ByteArray) (ep : Nat) (b : List Nat) (w : World) (e : Ending) (w' : World) : Prop := e = .returned (.tuple #[.agg (vb (unL k nn t ep b)), .int .i64 (unE k nn t ep b : Nat)]) ∧ Below w.heap.size w w'
set_option maxRecDepth 100000 in
set_option maxHeartbeats 4000000 in
theorem unwrap_c (k nn b : List Nat) (t : ByteArray) (ep : Nat) (A : Option Addr) (c : Nat) (w : World) (hk : k.length = 32) (hkl : ∀ c ∈ k, c < 256) (hn : nn.length = 12) (hnl : ∀ c ∈ nn, c < 256) (ht : t.size ≤ 1000) (he : ep < 4294967296)
    (hr : Rd w w.heap.size A (byt b)) (hbl : ∀ c ∈ b, c < 256) (hc : b.length ≤ c) (hbn : b.length ≤ 100000) (hq : QuartersAt w) :
    Calls Tryd.prog 25 #[.agg (vb k), .agg (vb nn), .string t, .int .u32 (ep : Nat), .slice A b.length c] w (UnR k nn t ep b w) := by
  have zf := zero_keyX
  have zs1 : (vb z32).size = 32 := by rfl
  have zs2 : ¬ vb z32 = #[] := by intro h; have := congrArg Array.size h; rw [zs1] at this; cases this
  have HBX := Lib.hid (Wbx.begin w k nn z32)
  have HZK := Lib.hid (keySz (L := z32) rfl)
  unfold UnR
  by_cases h48 : b.length = 48
  · have hbs := beside_len 75 t ep
    have HBC := Lib.hid (fun W => beside_c 75 t ep W he (by omega))
    have HOC := Lib.hid (fun W A1 c1 (hb : Below w.heap.size w W) (hr1 : Rd W W.heap.size A1 (byt (besideL 75 t ep))) => open_c A1 A c1 c k nn (besideL 75 t ep) b W hk hkl hn hnl hr1 (Rd.ups (Rd.below hr hb) hb.size) (beside_lt 75 t ep (by decide)) hbl (by omega) (by omega) (by omega) hc (hq.next hb))
    have HE := Lib.hid (show unE k nn t ep b = openErr k nn (besideL 75 t ep) b by unfold unE; rw [if_pos h48])
    have HU := Lib.hid (show unL k nn t ep b = if unE k nn t ep b = 0 then openL k nn (besideL 75 t ep) b else z32 from rfl)
    have HUL := Lib.hid (unL_len k nn t ep b)
    rw [HE.out] at HU ⊢
    have HNL := Lib.hid (show (Tryd.prog.info? 25).map (·.size) = some (vb nn).toList.length by rw [Array.length_toList]; exact nnSz hn)
    have HKL := Lib.hid (show (Tryd.prog.info? 23).map (·.size) = some (vb k).toList.length by rw [Array.length_toList]; exact keySz hk)
    rw [h48] at HOC ⊢
    generalize unL k nn t ep b = u at *
    generalize openErr k nn (besideL 75 t ep) b = oe at *
    generalize openL k nn (besideL 75 t ep) b = pl at *
    generalize besideL 75 t ep = bs at *
    clear hr hbl hkl hnl hq HE
    go_enter Tryd.func25, Tryd.ntmps25
    go_upto_region 1 with (first
      | (refine Go.Great.wpList_boxTo rfl 23 (.tmp 0) rfl (some 5) rfl w.heap.size rfl (vb k) rfl ?_)
      | (refine Go.Great.wpList_boxTo rfl 25 (.tmp 1) rfl (some 6) rfl (w.heap.size + 1) (by simp) (vb nn) rfl ?_))
    generalize ((w.alloc (Obj.cells (vb k) 23)).alloc (Obj.cells (vb nn) 25)).alloc (Obj.cells (vb z32) 23) = W2 at *
    clear zf zs1 zs2
    go_upto_region 3 with fail
    refine wp_region_loud W2 [23, 25, 18, 26, 12] (fun k u W => if k = 23 then OwnB W W2.heap.size u bs else if k = 25 ∨ k = 18 then (∃ v, u = .tuple #[v, .int .i64 (oe : Nat)] ∧ OwnB W W2.heap.size v pl) else OwnB W W2.heap.size u pl) (by kernel_rfl) (by kernel_rfl) (by kernel_rfl) (by kernel_rfl) (fun k u w1 w2 h hb => by
      by_cases h33 : k = 23
      · rw [if_pos h33] at h ⊢; exact OwnB.next h hb
      · rw [if_neg h33] at h ⊢
        by_cases h35 : k = 25 ∨ k = 18
        · rw [if_pos h35] at h ⊢; obtain ⟨v, e, h⟩ := h; exact ⟨v, e, OwnB.next h hb⟩
        · rw [if_neg h35] at h ⊢; exact OwnB.next h hb) (Below.refl _ _).drew ?_
    repeat (first
      | (refine wpLoud_loadB rfl rfl 23 (.tmp 5) rfl w.heap.size 0 rfl (vb k) _ (fun z => by have h2 := rangeAt_blk (HBX.out.kb.kA.below z.bel HBX.out.kb.kA.lt); simpa [vb] using h2) Tryd.underlying23 rfl HKL.out _ (by simp only [Act.put, List.setIfInBounds_toArray, List.set_cons_succ, List.set_cons_zero]; rfl) ?_)
      | (refine wpLoud_loadB rfl rfl 25 (.tmp 6) rfl (w.heap.size + 1) 0 rfl (vb nn) _ (fun z => by have h2 := rangeAt_blk (HBX.out.kb.nA.below z.bel HBX.out.kb.nA.lt); simpa [vb] using h2) Tryd.underlying25 rfl HNL.out _ (by simp only [Act.put, List.setIfInBounds_toArray, List.set_cons_succ, List.set_cons_zero]; rfl) ?_)
      | (refine wpLoud_call 23 rfl [] tok 31 (fun g => #[.int .u8 75, .string t, .int .u32 (ep : Int)]) rfl (fun _ _ h => by cases h) rfl (fun g w => by kernel_rfl) (fun g y hg => by
          refine (HBC.out y.wd).mono ?_
          rintro e w' ⟨u, rfl, ho, hb⟩
          exact ⟨u, rfl, hb, own_base_le ho y.bel.size⟩) _ (by simp only [Act.put, List.setIfInBounds_toArray, List.set_cons_succ, List.set_cons_zero]; rfl) ?_)
      | (refine wpLoud_call 25 rfl [23] tok 35 (fun g => #[.agg (vb k), .agg (vb nn), g 23, .slice A 48 c]) rfl (fun _ _ h => by cases h) rfl (fun g w => by kernel_rfl) (fun g y hg => by
          have h22 : OwnB y.wd W2.heap.size (g 23) bs := hg 23 (by simp)
          obtain ⟨A3, c3, e3, _, _, r3⟩ := h22.rd
          show Calls _ _ #[_, _, g 23, _] _ _
          rw [e3]
          refine (HOC.out y.wd A3 c3 (HBX.out.kb.bel.trans (y.bel.mono HBX.out.kb.bel.size)) r3).mono ?_
          rintro e w' ⟨v, rfl, ho, hb⟩
          exact ⟨_, rfl, hb, ⟨v, rfl, own_base_le ho y.bel.size⟩⟩) _ (by simp only [Act.put, List.setIfInBounds_toArray, List.set_cons_succ, List.set_cons_zero]; rfl) ?_)
      | (refine wpLoud_move rfl 25 18 (.inr rfl) rfl rfl rfl rfl (fun u w h => h) _ (by simp only [Act.put, List.setIfInBounds_toArray, List.set_cons_succ, List.set_cons_zero]; rfl) ?_)
      | (refine wpLoud_makeG 26 rfl rfl [18] rfl (fun _ _ h => by cases h) rfl (fun g x h => by
          obtain ⟨v, e, ho⟩ : ∃ v, g 18 = .tuple #[v, .int .i64 (oe : Nat)] ∧ OwnB x.wd W2.heap.size v pl := h 18 (by simp)
          exact ⟨v, x.wd, run_ext _ _ (.tmp 18) 0 rfl _ v e rfl _, Below.refl _ _, ho⟩) _ (by simp only [Act.put, List.setIfInBounds_toArray, List.set_cons_succ, List.set_cons_zero]; rfl) ?_)
      | (refine wpLoud_valN 27 rfl rfl [18] (.int .i64 (oe : Nat)) rfl (fun _ _ h => by cases h) rfl (fun g x h => by
          obtain ⟨v, e, ho⟩ : ∃ v, g 18 = .tuple #[v, .int .i64 (oe : Nat)] ∧ OwnB x.wd W2.heap.size v pl := h 18 (by simp)
          exact run_ext _ _ (.tmp 18) 1 rfl _ _ e rfl _) _ (by simp only [Act.put, List.setIfInBounds_toArray, List.set_cons_succ, List.set_cons_zero]; rfl) ?_)
      | (refine wpLoud_move rfl 26 12 (.inl rfl) rfl rfl rfl rfl (fun u w h => h) _ (by simp only [Act.put, List.setIfInBounds_toArray, List.set_cons_succ, List.set_cons_zero]; rfl) ?_)
      | (refine wpLoud_plain rfl rfl rfl ?_; intro K hK; go_big_quiet_op; go_big_quiet_on))
    refine wpLoud_end [23, 25, 18, 26, 12] (by rfl) ?_
    intro gg z hg
    have h25 : OwnB z.wd W2.heap.size (gg 12) pl := hg 12 (by simp)
    have HO5 := Lib.hid h25
    have HX5 := Lib.hid (HBX.out.next z.bel)
    generalize z.wd = Y at *
    simp only [fill, Act.put, List.setIfInBounds_toArray, List.set_cons_succ, List.set_cons_zero]
    clear hg h25
    generalize gg 23 = x22 at *
    generalize gg 25 = x25 at *
    generalize gg 18 = x14 at *
    generalize gg 26 = x26 at *
    generalize gg 12 = x12 at *
    by_cases h0 : oe = 0
    · subst h0
      rw [if_pos rfl] at HU
      rw [← HU.out] at HO5
      have HP := Lib.hid HU.out
      obtain ⟨g, cap, rest, rfl, hg, hblk, hcap, _⟩ := HO5.out.open_ (by intro h0; have h1 := HUL.out; rw [h0] at h1; cases h1)
      have HR6 := Lib.hid (range_of_rd HO5.out.rdAtP (by intro h0; have h1 := HUL.out; rw [h0] at h1; cases h1))
      rw [HUL.out]
      clear hblk
      have hAA := fun W => run_arrayAt (P := Tryd.prog) (w := W) 23 5 32 (some ⟨g, 0, none⟩) 32 cap Tryd.underlying23 (Nat.le_refl _)
      have HUN := Lib.hid (show (Tryd.prog.info? 23).map (·.size) = some (byt u).length by rw [byt_len]; have h := keySz HUL.out; rw [vb_size] at h; exact h)
      have HUS := Lib.hid (keySz HUL.out)
      have HUQ := Lib.hid (show (vb z32).size = (vb u).size by rw [vb_size, vb_size, HUL.out]; rfl)
      go_wp2_with (first
        | (refine wpList_loadG rfl 23 (.tmp 33) rfl g 0 rfl (byt u) _ HR6.out Tryd.underlying23 rfl HUN.out ?_)
        | (refine wpList_store_rowTo rfl 23 (.tmp 10) (.tmp 34) rfl rfl (w.heap.size + 1 + 1) (vb u) rfl rfl 23 (vb z32) (by exact HX5.out.r) HUS.out HUQ.out (vb_one _) ?_))
      refine bodyPost_ret (results_row_tmp rfl _ _ (w.heap.size + 1 + 1) 23 (vb u) (0, 0) _ rfl (setRow_heap _ _ (vb z32) _ 23 (0, 0) HX5.out.r) Tryd.underlying23 rfl HUS.out) rfl ?_
      exact ⟨rfl, below_row HX5.out.kb.bel (by omega) _⟩
    · rw [if_neg h0] at HU
      have HP := Lib.hid HU.out
      obtain rfl := HP.out
      have hne : ((oe : Nat) : Int) ≠ 0 := by omega
      have hq0 : decide (((oe : Nat) : Int) = 0) = false := decide_eq_false (by omega)
      clear h0
      go_wp2_with (first
        | (refine wpList_store_rowTo rfl 23 (.tmp 10) (.tmp 30) rfl rfl (w.heap.size + 1 + 1) (vb z32) rfl rfl 23 (vb z32) (by exact HX5.out.r) HZK.out rfl (vb_one _) ?_))
      refine bodyPost_ret (results_row_tmp rfl _ _ (w.heap.size + 1 + 1) 23 (vb z32) (0, 0) _ rfl (setRow_heap _ _ (vb z32) _ 23 (0, 0) HX5.out.r) Tryd.underlying23 rfl HZK.out) rfl ?_
      exact ⟨rfl, below_row HX5.out.kb.bel (by omega) _⟩
  · have hE : unE k nn t ep b = 4 := by unfold unE; rw [if_neg h48]
    have hL : unL k nn t ep b = z32 := by unfold unL; rw [if_neg (by omega)]
    rw [hE, hL]
    have q1 : ((b.length : Int) == 48) = false := by rw [beq_eq_false_iff_ne]; omega
    have q2 : ¬ (b.length : Int) = 48 := by omega
    clear hr hbl hkl hnl hq hE hL
    go_enter Tryd.func25, Tryd.ntmps25
    go_upto_region 1 with (first
      | (refine Go.Great.wpList_boxTo rfl 23 (.tmp 0) rfl (some 5) rfl w.heap.size rfl (vb k) rfl ?_)
      | (refine Go.Great.wpList_boxTo rfl 25 (.tmp 1) rfl (some 6) rfl (w.heap.size + 1) (by simp) (vb nn) rfl ?_))
    generalize ((w.alloc (Obj.cells (vb k) 23)).alloc (Obj.cells (vb nn) 25)).alloc (Obj.cells (vb z32) 23) = Z at *
    clear zf zs1 zs2
    go_wp2_with (first
      | (refine wpList_store_rowTo rfl 23 (.tmp 10) (.tmp 17) rfl rfl (w.heap.size + 1 + 1) (vb z32) rfl rfl 23 (vb z32) (by exact HBX.out.r) HZK.out rfl (vb_one _) ?_))
    refine bodyPost_ret (results_row_tmp rfl _ _ (w.heap.size + 1 + 1) 23 (vb z32) (0, 0) _ rfl (setRow_heap _ _ (vb z32) _ 23 (0, 0) HBX.out.r) Tryd.underlying23 rfl HZK.out) rfl ?_
    exact ⟨rfl, below_row HBX.out.kb.bel (by omega) _⟩
end Go.Proofs.YtaikejlcpnelpaaDoor
/- BoxWraps, walked. -/
namespace Go.Proofs.YtaikejlcpnelpaaDoor
open Go.RowKit
set_option linter.unusedVariables false
set_option linter.unusedSimpArgs false
theorem wrap_un (k nn : List Nat) (t : ByteArray) (ep : Nat) (key : List Nat) (hy : key.length = 32) : unE k nn t ep (wrapL k nn t ep key) = 0 ∧ unL k nn t ep (wrapL k nn t ep key) = key ∧ (wrapL k nn t ep key).length = 48 := by
  have hl : (wrapL k nn t ep key).length = 48 := by unfold wrapL; rw [seal_len, hy]
  obtain ⟨h1, h2⟩ := seal_open k nn (besideL 75 t ep) key (by omega)
  have hE : unE k nn t ep (wrapL k nn t ep key) = 0 := by
    unfold unE
    rw [if_pos hl]
    exact h1
  refine ⟨hE, ?_, hl⟩
  unfold unL
  rw [if_pos hE]
  exact h2
theorem wrapL_lt {k nn : List Nat} {t : ByteArray} {ep : Nat} {key : List Nat} (hl : ∀ c ∈ key, c < 256) : ∀ c ∈ wrapL k nn t ep key, c < 256 := fun c hc => by
  unfold wrapL sealL at hc
  rcases List.mem_append.1 hc with h | h
  · exact xorL_lt k nn 1 hl c h
  · unfold tagL polT at h; exact form_lt _ _ c h
theorem open48 (k nn bs b : List Nat) (h : b.length = 48) : openErr k nn bs b = 0 ∨ openErr k nn bs b = 5 := by
  unfold openErr
  rw [if_neg (by omega), if_neg (by omega)]
  split
  · left; rfl
  · right; rfl
theorem unL_lt {k nn : List Nat} {t : ByteArray} {ep : Nat} {b : List Nat} (hb : ∀ c ∈ b, c < 256) : ∀ c ∈ unL k nn t ep b, c < 256 := by
  unfold unL
  split
  · exact openL_lt hb
  · decide
set_option maxRecDepth 100000 in
set_option maxHeartbeats 8000000 in
theorem wraps_c (k nn key b : List Nat) (t : ByteArray) (ep : Nat) (A : Option Addr) (ca : Nat) (w : World) (hk : k.length = 32) (hkl : ∀ c ∈ k, c < 256) (hn : nn.length = 12) (hnl : ∀ c ∈ nn, c < 256) (hy : key.length = 32) (hyl : ∀ c ∈ key, c < 256) (ht : t.size ≤ 9223372036854775807) (he : ep < 4294967296)
    (hr : Rd w w.heap.size A (byt b)) (hbl : ∀ c ∈ b, c < 256) (hc : b.length ≤ ca) (hbn : b.length ≤ 9223372036854775807) (hq : QuartersAt w) :
    Calls Tryd.prog 6 #[.agg (vb k), .agg (vb nn), .string t, .int .u32 (ep : Nat), .agg (vb key), .slice A b.length ca] w fun e w' => e = .returned (.bool true) ∧ Below w.heap.size w w' := by
  have HBX := Lib.hid (Wbx.begin w k nn key)
  have HAW := Lib.hid (fun W (hb : Below w.heap.size w W) => awake16_c W (hq.next hb))
  by_cases htl : 100 < t.size
  · have q1 : (100 : Int) < (t.size : Int) := by omega
    clear hr hbl hkl hnl hq htl hc hyl
    go_enter Tryd.func6, Tryd.ntmps6
    go_upto_region 1 with (first
      | (refine Go.Great.wpList_boxTo rfl 23 (.tmp 0) rfl (some 6) rfl w.heap.size rfl (vb k) rfl ?_)
      | (refine Go.Great.wpList_boxTo rfl 25 (.tmp 1) rfl (some 7) rfl (w.heap.size + 1) (by simp) (vb nn) rfl ?_)
      | (refine Go.Great.wpList_boxTo rfl 23 (.tmp 4) rfl (some 10) rfl (w.heap.size + 1 + 1) (by simp) (vb key) rfl ?_))
    generalize ((w.alloc (Obj.cells (vb k) 23)).alloc (Obj.cells (vb nn) 25)).alloc (Obj.cells (vb key) 23) = Z at *
    go_wp2_with (go_at_call 9; (refine (HAW.out Z HBX.out.kb.bel).mono ?_); rintro e W9 ⟨rfl, hb⟩; have HB9 := Lib.hid (HBX.out.kb.bel.trans (hb.mono HBX.out.kb.bel.size)); clear hb)
    go_ret
    exact ⟨rfl, HB9.out⟩
  by_cases hbg : 100 < b.length
  · have q1 : ¬ (100 : Int) < (t.size : Int) := by omega
    have q2 : (100 : Int) < (b.length : Int) := by omega
    clear hr hbl hkl hnl hq htl hc hyl hbg
    go_enter Tryd.func6, Tryd.ntmps6
    go_upto_region 1 with (first
      | (refine Go.Great.wpList_boxTo rfl 23 (.tmp 0) rfl (some 6) rfl w.heap.size rfl (vb k) rfl ?_)
      | (refine Go.Great.wpList_boxTo rfl 25 (.tmp 1) rfl (some 7) rfl (w.heap.size + 1) (by simp) (vb nn) rfl ?_)
      | (refine Go.Great.wpList_boxTo rfl 23 (.tmp 4) rfl (some 10) rfl (w.heap.size + 1 + 1) (by simp) (vb key) rfl ?_))
    generalize ((w.alloc (Obj.cells (vb k) 23)).alloc (Obj.cells (vb nn) 25)).alloc (Obj.cells (vb key) 23) = Z at *
    go_wp2_with (go_at_call 9; (refine (HAW.out Z HBX.out.kb.bel).mono ?_); rintro e W9 ⟨rfl, hb⟩; have HB9 := Lib.hid (HBX.out.kb.bel.trans (hb.mono HBX.out.kb.bel.size)); clear hb)
    go_ret
    exact ⟨rfl, HB9.out⟩
  have q1 : ¬ (100 : Int) < (t.size : Int) := by omega
  have q2 : ¬ (100 : Int) < (b.length : Int) := by omega
  have zf := zero_keyX
  have zs1 : (vb z32).size = 32 := by rfl
  have zs2 : ¬ vb z32 = #[] := by intro h; have := congrArg Array.size h; rw [zs1] at this; cases this
  have HNK := Lib.hid (keySz hk)
  have HNN := Lib.hid (nnSz hn)
  have HNY := Lib.hid (keySz hy)
  obtain ⟨hw0, hwk, hw48⟩ := wrap_un k nn t ep key hy
  have hwl : ∀ c ∈ wrapL k nn t ep key, c < 256 := wrapL_lt hyl
  have hbs := beside_len 75 t ep
  have HWR := Lib.hid (fun W (hb : Below w.heap.size w W) => wrap_c k nn key t ep W hk hkl hn hnl hy hyl (by omega) he (hq.next hb))
  have HUW := Lib.hid (fun W A1 c1 (hb : Below w.heap.size w W) (h : Rd W W.heap.size A1 (byt (wrapL k nn t ep key))) (h2 : (wrapL k nn t ep key).length ≤ c1) => unwrap_c k nn (wrapL k nn t ep key) t ep A1 c1 W hk hkl hn hnl (by omega) he h hwl h2 (by omega) (hq.next hb))
  have HUB := Lib.hid (fun W (hb : Below w.heap.size w W) => unwrap_c k nn b t ep A ca W hk hkl hn hnl (by omega) he (Rd.ups (Rd.below hr hb) hb.size) hbl hc (by omega) (hq.next hb))
  unfold UnR at HUW HUB
  rw [hw0, hwk] at HUW
  have HBC := Lib.hid (fun W => rbeside_c 75 t ep W he (by omega))
  have HSC := Lib.hid (fun W A1 A2 c1 c2 (hr1 : Rd W W.heap.size A1 (byt (besideL 75 t ep))) (hr2 : Rd W W.heap.size A2 (byt key)) => rseal_c A1 A2 c1 c2 k nn (besideL 75 t ep) key W hk hkl hn hnl hr1 hr2 (beside_lt 75 t ep (by decide)) hyl (by omega) (by omega))
  have HSB := Lib.hid (show sealL k nn (besideL 75 t ep) key = wrapL k nn t ep key from rfl)
  rw [HSB.out, hy] at HSC
  have HSM := Lib.hid (fun W A1 c1 A2 c2 (h : Rd W W.heap.size A1 (byt (wrapL k nn t ep key))) (g : Rd W W.heap.size A2 (byt (wrapL k nn t ep key))) => same_c W.heap.size W.heap.size A1 A2 c1 c2 (wrapL k nn t ep key) (wrapL k nn t ep key) W hwl hwl h g (by omega) (by omega))
  rw [beq_self_eq_true] at HSM
  have l3 : ∀ W, (Op.equalIn 10000 23 (.agg (vb key)) (.agg (vb key))).run Tryd.prog W = .ok true W := fun W => by
    have h := run_equalIn_barr (P := Tryd.prog) (T := 23) Tryd.underlying23 Tryd.underlying5 (by kernel_rfl) (by kernel_rfl) key key hy hy hyl hyl W
    rwa [beq_self_eq_true] at h
  have l4 : ∀ W, (Op.equalIn 10000 23 (.agg (vb z32)) (.agg (vb z32))).run Tryd.prog W = .ok true W := fun W => by
    have h := run_equalIn_barr (P := Tryd.prog) (T := 23) Tryd.underlying23 Tryd.underlying5 (by kernel_rfl) (by kernel_rfl) z32 z32 rfl rfl (by decide) (by decide) W
    rwa [beq_self_eq_true] at h
  have l5 : ∀ W, (Op.equalIn 10000 23 (.agg (byt z32).toArray) (.agg (vb z32))).run Tryd.prog W = .ok true W := l4
  have HU := Lib.hid (show unL k nn t ep b = if unE k nn t ep b = 0 then openL k nn (besideL 75 t ep) b else z32 from rfl)
  have HE := Lib.hid (show unE k nn t ep b = if b.length = 48 then openErr k nn (besideL 75 t ep) b else 4 from rfl)
  have HUL := Lib.hid (unL_len k nn t ep b)
  have hult : ∀ c ∈ unL k nn t ep b, c < 256 := unL_lt hbl
  have HUS := Lib.hid (keySz HUL.out)
  have HUQ := Lib.hid (show (vb z32).size = (vb (unL k nn t ep b)).size by rw [vb_size, vb_size, HUL.out]; rfl)
  have HYQ := Lib.hid (show (vb z32).size = (vb key).size by rw [vb_size, vb_size, hy]; rfl)
  have HNL := Lib.hid (show (Tryd.prog.info? 25).map (·.size) = some (vb nn).toList.length by rw [Array.length_toList]; exact nnSz hn)
  have HKL := Lib.hid (show (Tryd.prog.info? 23).map (·.size) = some (vb k).toList.length by rw [Array.length_toList]; exact keySz hk)
  have HYL := Lib.hid (show (Tryd.prog.info? 23).map (·.size) = some (vb key).toList.length by rw [Array.length_toList]; exact keySz hy)
  have HOC := Lib.hid (fun (h48 : b.length = 48) W A1 c1 (hb : Below w.heap.size w W) (hr1 : Rd W W.heap.size A1 (byt (besideL 75 t ep))) => ropen_c A1 A c1 ca k nn (besideL 75 t ep) b W hk hkl hn hnl hr1 (Rd.ups (Rd.below hr hb) hb.size) (beside_lt 75 t ep (by decide)) hbl (by omega) (by omega) (by omega) hc)
  have HW48 := Lib.hid hw48
  have HO48 := Lib.hid (open48 k nn (besideL 75 t ep) b)
  rw [hw48] at HUW HSM
  generalize unE k nn t ep b = f at *
  generalize unL k nn t ep b = u at *
  generalize openErr k nn (besideL 75 t ep) b = oe at *
  generalize openL k nn (besideL 75 t ep) b = pl at *
  generalize wrapL k nn t ep key = body at *
  generalize besideL 75 t ep = bs at *
  clear hr hbl hkl hnl hq htl hc hyl hbg hw0 hwk hw48 hwl HSB
  go_enter Tryd.func6, Tryd.ntmps6
  go_upto_region 1 with (first
    | (refine Go.Great.wpList_boxTo rfl 23 (.tmp 0) rfl (some 6) rfl w.heap.size rfl (vb k) rfl ?_)
    | (refine Go.Great.wpList_boxTo rfl 25 (.tmp 1) rfl (some 7) rfl (w.heap.size + 1) (by simp) (vb nn) rfl ?_)
    | (refine Go.Great.wpList_boxTo rfl 23 (.tmp 4) rfl (some 10) rfl (w.heap.size + 1 + 1) (by simp) (vb key) rfl ?_))
  generalize ((w.alloc (Obj.cells (vb k) 23)).alloc (Obj.cells (vb nn) 25)).alloc (Obj.cells (vb key) 23) = Z at *
  go_upto_region 4 with (first
    | (refine wpList_load_row rfl 23 (.tmp 6) rfl w.heap.size rfl 23 (vb k) (0, 0) _ HBX.out.kb.kA Tryd.underlying23 rfl HNK.out ?_)
    | (refine wpList_load_row rfl 25 (.tmp 7) rfl (w.heap.size + 1) rfl 25 (vb nn) (0, 0) _ HBX.out.kb.nA Tryd.underlying25 rfl HNN.out ?_)
    | (refine wpList_load_row rfl 23 (.tmp 10) rfl (w.heap.size + 1 + 1) rfl 23 (vb key) (0, 0) _ HBX.out.r Tryd.underlying23 rfl HNY.out ?_)
    | (go_at_call 24; (refine (HWR.out Z HBX.out.kb.bel).mono ?_); rintro e W1 ⟨v1, rfl, ho, hb⟩; obtain ⟨A1, c1, rfl, hc1, _, r1⟩ := ho.rd; rw [HW48.out] at hc1 ⊢; have HC1 := Lib.hid hc1; have HR1 := Lib.hid r1; have HX1 := Lib.hid (HBX.out.next hb); clear ho hb r1 hc1))
  go_upto_region 5 with (first
    | (refine wpList_load_row rfl 23 (.tmp 6) rfl w.heap.size rfl 23 (vb k) (0, 0) _ HX1.out.kb.kA Tryd.underlying23 rfl HNK.out ?_)
    | (refine wpList_load_row rfl 25 (.tmp 7) rfl (w.heap.size + 1) rfl 25 (vb nn) (0, 0) _ HX1.out.kb.nA Tryd.underlying25 rfl HNN.out ?_)
    | (go_at_call 25; (refine (HUW.out W1 A1 c1 HX1.out.kb.bel HR1.out HC1.out).mono ?_); rintro e W2 ⟨rfl, hb⟩; have HX2 := Lib.hid (HX1.out.next hb); have HR2 := Lib.hid (Rd.ups (Rd.below HR1.out hb) hb.size); clear hb)
    | (refine wpList_store_rowTo rfl 23 (.tmp 14) (.tmp 42) rfl rfl W2.heap.size (vb key) rfl rfl 23 (vb z32) (by exact Blk.new W2 _ _) HNY.out HYQ.out (vb_one _) ?_))
  have hnr := new_rowP W2 23 (vb z32) (vb key)
  have HG3 := Lib.hid hnr.1
  have HX3 := Lib.hid (HX2.out.next hnr.2)
  have HR3 := Lib.hid (Rd.ups (Rd.below HR2.out hnr.2) hnr.2.size)
  generalize (W2.alloc (Obj.cells (vb z32) 23)).setRow W2.heap.size (vb key) = W3 at *
  generalize W2.heap.size = g1 at *
  clear hnr
  go_upto_region 6 with (first
    | (refine wpList_load_row rfl 23 (.tmp 6) rfl w.heap.size rfl 23 (vb k) (0, 0) _ HX3.out.kb.kA Tryd.underlying23 rfl HNK.out ?_)
    | (refine wpList_load_row rfl 25 (.tmp 7) rfl (w.heap.size + 1) rfl 25 (vb nn) (0, 0) _ HX3.out.kb.nA Tryd.underlying25 rfl HNN.out ?_)
    | (go_at_call 25; (refine (HUB.out W3 HX3.out.kb.bel).mono ?_); rintro e W4 ⟨rfl, hb⟩; have HX4 := Lib.hid (HX3.out.next hb); have HG4 := Lib.hid (HG3.out.below hb HG3.out.lt); have HR4 := Lib.hid (Rd.ups (Rd.below HR3.out hb) hb.size); clear hb)
    | (refine wpList_store_rowTo rfl 23 (.tmp 16) (.tmp 51) rfl rfl W4.heap.size (vb u) rfl rfl 23 (vb z32) (by exact Blk.new W4 _ _) HUS.out HUQ.out (vb_one _) ?_))
  have hnr := new_rowP W4 23 (vb z32) (vb u)
  have HH5 := Lib.hid hnr.1
  have HG5 := Lib.hid (HG4.out.below hnr.2 HG4.out.lt)
  have HX5 := Lib.hid (HX4.out.next hnr.2)
  have HR5 := Lib.hid (Rd.ups (Rd.below HR4.out hnr.2) hnr.2.size)
  generalize (W4.alloc (Obj.cells (vb z32) 23)).setRow W4.heap.size (vb u) = W5 at *
  generalize W4.heap.size = g2 at *
  clear hnr HR1 HR2 HR3 HR4 HX1 HX2 HX3 HX4 HG3 HG4 HUW HUB HWR
  refine wp_region_loud W5 [58, 60] (fun k u W => if k = 58 then OwnB W W5.heap.size u bs else OwnB W W5.heap.size u body) (by kernel_rfl) (by kernel_rfl) (by kernel_rfl) (by kernel_rfl) (fun k u w1 w2 h hb => by
    by_cases h33 : k = 58
    · rw [if_pos h33] at h ⊢; exact OwnB.next h hb
    · rw [if_neg h33] at h ⊢; exact OwnB.next h hb) (Below.refl _ _).drew ?_
  repeat (first
    | (refine wpLoud_loadB rfl rfl 23 (.tmp 6) rfl w.heap.size 0 rfl (vb k) _ (fun z => rangeAt_blk (HX5.out.kb.kA.below z.bel HX5.out.kb.kA.lt)) Tryd.underlying23 rfl HKL.out _ (by simp only [Act.put, List.setIfInBounds_toArray, List.set_cons_succ, List.set_cons_zero]; rfl) ?_)
    | (refine wpLoud_loadB rfl rfl 25 (.tmp 7) rfl (w.heap.size + 1) 0 rfl (vb nn) _ (fun z => rangeAt_blk (HX5.out.kb.nA.below z.bel HX5.out.kb.nA.lt)) Tryd.underlying25 rfl HNL.out _ (by simp only [Act.put, List.setIfInBounds_toArray, List.set_cons_succ, List.set_cons_zero]; rfl) ?_)
    | (refine wpLoud_loadB rfl rfl 23 (.tmp 14) rfl g1 0 rfl (vb key) _ (fun z => rangeAt_blk (HG5.out.below z.bel HG5.out.lt)) Tryd.underlying23 rfl HYL.out _ (by simp only [Act.put, List.setIfInBounds_toArray, List.set_cons_succ, List.set_cons_zero]; rfl) ?_)
    | (refine wpLoud_loadB rfl rfl 23 (.tmp 10) rfl (w.heap.size + 1 + 1) 0 rfl (vb key) _ (fun z => rangeAt_blk (HX5.out.r.below z.bel HX5.out.r.lt)) Tryd.underlying23 rfl HYL.out _ (by simp only [Act.put, List.setIfInBounds_toArray, List.set_cons_succ, List.set_cons_zero]; rfl) ?_)
    | (refine wpLoud_call 58 rfl [] tok 20 (fun g => #[.int .u8 75, .string t, .int .u32 (ep : Int)]) rfl (fun _ _ h => by cases h) rfl (fun g w => by kernel_rfl) (fun g y hg => by
        refine (HBC.out y.wd).mono ?_
        rintro e w' ⟨u, rfl, ho, hb⟩
        exact ⟨u, rfl, hb, own_base_le ho y.bel.size⟩) _ (by simp only [Act.put, List.setIfInBounds_toArray, List.set_cons_succ, List.set_cons_zero]; rfl) ?_)
    | (refine wpLoud_call 60 rfl [58] tok 26 (fun g => #[.agg (vb k), .agg (vb nn), g 58, .slice (some ⟨w.heap.size + 1 + 1, 0, none⟩) 32 32]) rfl (fun _ _ h => by cases h) rfl (fun g w => by kernel_rfl) (fun g y hg => by
        have h33 : OwnB y.wd W5.heap.size (g 58) bs := hg 58 (by simp)
        obtain ⟨A3, c3, e3, _, _, r3⟩ := h33.rd
        show Calls _ _ #[_, _, g 58, _] _ _
        rw [e3]
        refine (HSC.out y.wd A3 _ c3 32 r3 (Rd.ups (Rd.below HX5.out.rd y.bel) y.bel.size)).mono ?_
        rintro e w' ⟨v, rfl, ho, hb⟩
        exact ⟨v, rfl, hb, own_base_le ho y.bel.size⟩) _ (by simp only [Act.put, List.setIfInBounds_toArray, List.set_cons_succ, List.set_cons_zero]; rfl) ?_)
    | (refine wpLoud_call 61 rfl [60] (.bool true) 21 (fun g => #[.slice A1 48 c1, g 60]) rfl (fun _ _ h => by cases h) rfl (fun g w => by kernel_rfl) (fun g y hg => by
        have h60 : OwnB y.wd W5.heap.size (g 60) body := hg 60 (by simp)
        obtain ⟨A3, c3, e3, _, _, r3⟩ := h60.rd
        show Calls _ _ #[_, g 60] _ _
        rw [e3, HW48.out]
        refine (HSM.out y.wd A1 c1 A3 c3 (Rd.ups (Rd.below HR5.out y.bel) y.bel.size) r3).mono ?_
        rintro e w' ⟨rfl, q, rfl⟩
        exact ⟨_, rfl, belowDrewN q (Below.refl _ _), rfl⟩) _ (by simp only [Act.put, List.setIfInBounds_toArray, List.set_cons_succ, List.set_cons_zero]; rfl) ?_)
    | (refine wpLoud_plain rfl rfl rfl ?_; intro K hK; go_big_quiet_op; go_big_quiet_on))
  refine wpLoud_end [58, 60] (by rfl) ?_
  intro gg z hg
  have HX6 := Lib.hid (HX5.out.next z.bel)
  have HH6 := Lib.hid (HH5.out.below z.bel HH5.out.lt)
  generalize z.wd = W6 at *
  simp only [fill, Act.put, List.setIfInBounds_toArray, List.set_cons_succ, List.set_cons_zero]
  clear hg HX5 HH5 HG5 HR5
  generalize gg 58 = x58 at *
  generalize gg 60 = x60 at *
  by_cases h48 : b.length = 48
  · rw [if_pos h48] at HE
    have hfe := HE.out
    subst hfe
    have HOD := Lib.hid (HOC.out h48)
    rw [h48] at HOD ⊢
    clear HOC HE
    go_upto_region 10 with fail
    refine wp_region_loud W6 [90, 92, 85, 93, 18] (fun k u W => if k = 90 then OwnB W W6.heap.size u bs else if k = 92 ∨ k = 85 then (∃ v, u = .tuple #[v, .int .i64 (f : Nat)] ∧ OwnB W W6.heap.size v pl) else OwnB W W6.heap.size u pl) (by kernel_rfl) (by kernel_rfl) (by kernel_rfl) (by kernel_rfl) (fun k u w1 w2 h hb => by
      by_cases h33 : k = 90
      · rw [if_pos h33] at h ⊢; exact OwnB.next h hb
      · rw [if_neg h33] at h ⊢
        by_cases h35 : k = 92 ∨ k = 85
        · rw [if_pos h35] at h ⊢; obtain ⟨v, e, h⟩ := h; exact ⟨v, e, OwnB.next h hb⟩
        · rw [if_neg h35] at h ⊢; exact OwnB.next h hb) (Below.refl _ _).drew ?_
    repeat (first
      | (refine wpLoud_loadB rfl rfl 23 (.tmp 6) rfl w.heap.size 0 rfl (vb k) _ (fun z => rangeAt_blk (HX6.out.kb.kA.below z.bel HX6.out.kb.kA.lt)) Tryd.underlying23 rfl HKL.out _ (by simp only [Act.put, List.setIfInBounds_toArray, List.set_cons_succ, List.set_cons_zero]; rfl) ?_)
      | (refine wpLoud_loadB rfl rfl 25 (.tmp 7) rfl (w.heap.size + 1) 0 rfl (vb nn) _ (fun z => rangeAt_blk (HX6.out.kb.nA.below z.bel HX6.out.kb.nA.lt)) Tryd.underlying25 rfl HNL.out _ (by simp only [Act.put, List.setIfInBounds_toArray, List.set_cons_succ, List.set_cons_zero]; rfl) ?_)
      | (refine wpLoud_call 90 rfl [] tok 20 (fun g => #[.int .u8 75, .string t, .int .u32 (ep : Int)]) rfl (fun _ _ h => by cases h) rfl (fun g w => by kernel_rfl) (fun g y hg => by
          refine (HBC.out y.wd).mono ?_
          rintro e w' ⟨u, rfl, ho, hb⟩
          exact ⟨u, rfl, hb, own_base_le ho y.bel.size⟩) _ (by simp only [Act.put, List.setIfInBounds_toArray, List.set_cons_succ, List.set_cons_zero]; rfl) ?_)
      | (refine wpLoud_call 92 rfl [90] tok 19 (fun g => #[.agg (vb k), .agg (vb nn), g 90, .slice A 48 ca]) rfl (fun _ _ h => by cases h) rfl (fun g w => by kernel_rfl) (fun g y hg => by
          have h22 : OwnB y.wd W6.heap.size (g 90) bs := hg 90 (by simp)
          obtain ⟨A3, c3, e3, _, _, r3⟩ := h22.rd
          show Calls _ _ #[_, _, g 90, _] _ _
          rw [e3]
          refine (HOD.out y.wd A3 c3 (HX6.out.kb.bel.trans (y.bel.mono HX6.out.kb.bel.size)) r3).mono ?_
          rintro e w' ⟨v, rfl, ho, hb⟩
          exact ⟨_, rfl, hb, ⟨v, rfl, own_base_le ho y.bel.size⟩⟩) _ (by simp only [Act.put, List.setIfInBounds_toArray, List.set_cons_succ, List.set_cons_zero]; rfl) ?_)
      | (refine wpLoud_move rfl 92 85 (.inr rfl) rfl rfl rfl rfl (fun u w h => h) _ (by simp only [Act.put, List.setIfInBounds_toArray, List.set_cons_succ, List.set_cons_zero]; rfl) ?_)
      | (refine wpLoud_makeG 93 rfl rfl [85] rfl (fun _ _ h => by cases h) rfl (fun g x h => by
          obtain ⟨v, e, ho⟩ : ∃ v, g 85 = .tuple #[v, .int .i64 (f : Nat)] ∧ OwnB x.wd W6.heap.size v pl := h 85 (by simp)
          exact ⟨v, x.wd, run_ext _ _ (.tmp 85) 0 rfl _ v e rfl _, Below.refl _ _, ho⟩) _ (by simp only [Act.put, List.setIfInBounds_toArray, List.set_cons_succ, List.set_cons_zero]; rfl) ?_)
      | (refine wpLoud_valN 94 rfl rfl [85] (.int .i64 (f : Nat)) rfl (fun _ _ h => by cases h) rfl (fun g x h => by
          obtain ⟨v, e, ho⟩ : ∃ v, g 85 = .tuple #[v, .int .i64 (f : Nat)] ∧ OwnB x.wd W6.heap.size v pl := h 85 (by simp)
          exact run_ext _ _ (.tmp 85) 1 rfl _ _ e rfl _) _ (by simp only [Act.put, List.setIfInBounds_toArray, List.set_cons_succ, List.set_cons_zero]; rfl) ?_)
      | (refine wpLoud_move rfl 93 18 (.inl rfl) rfl rfl rfl rfl (fun u w h => h) _ (by simp only [Act.put, List.setIfInBounds_toArray, List.set_cons_succ, List.set_cons_zero]; rfl) ?_)
      | (refine wpLoud_plain rfl rfl rfl ?_; intro K hK; go_big_quiet_op; go_big_quiet_on))
    refine wpLoud_end [90, 92, 85, 93, 18] (by rfl) ?_
    intro gg z hg
    have h25 : OwnB z.wd W6.heap.size (gg 18) pl := hg 18 (by simp)
    obtain ⟨A5, c5, e18, _, _, r5⟩ := h25.rd
    have HP7 := Lib.hid r5
    have HX7 := Lib.hid (HX6.out.next z.bel)
    have HH7 := Lib.hid (HH6.out.below z.bel HH6.out.lt)
    generalize z.wd = W7 at *
    simp only [fill, Act.put, List.setIfInBounds_toArray, List.set_cons_succ, List.set_cons_zero]
    rw [e18]
    clear hg h25 e18 r5 HX6 HH6 HOD
    generalize gg 90 = x22 at *
    generalize gg 92 = x25 at *
    generalize gg 85 = x14 at *
    generalize gg 93 = x26 at *
    by_cases h0 : f = 0
    · subst h0
      rw [if_pos rfl] at HU
      have hup := HU.out
      subst hup
      have HSL := Lib.hid (fun W B1 B2 A1 c1 A2 c2 (h : Rd W B1 A1 (byt u)) (g : Rd W B2 A2 (byt u)) => same_c B1 B2 A1 A2 c1 c2 u u W hult hult h g (by have := HUL.out; omega) (by have := HUL.out; omega))
      rw [beq_self_eq_true, HUL.out] at HSL
      have HRU := Lib.hid (rd_blk HH7.out (byt u) u.length (by show byt u = (byt u).take u.length; rw [List.take_of_length_le (by rw [byt_len]; exact Nat.le_refl _)]))
      rw [HUL.out]
      clear hult
      go_wp2_with (first
        | (go_at_call 21; (refine (HSL.out W7 _ _ _ _ _ _ HRU.out HP7.out).mono ?_); rintro e W8 ⟨rfl, q8, hq⟩; have HX8 := Lib.hid (show Wbx w W8 k nn key by rw [hq]; exact HX7.out.next (belowDrewN q8 (Below.refl _ _))); clear hq)
        | (go_at_call 9; (refine (HAW.out W8 HX8.out.kb.bel).mono ?_); rintro e W9 ⟨rfl, hb⟩; have HB9 := Lib.hid (HX8.out.kb.bel.trans (hb.mono HX8.out.kb.bel.size)); clear hb))
      go_ret
      exact ⟨rfl, HB9.out⟩
    · rw [if_neg h0] at HU
      have hup := HU.out
      subst hup
      obtain rfl : f = 5 := by have := HO48.out h48; omega
      have HZL := Lib.hid (show (Tryd.prog.info? 23).map (·.size) = some (byt z32).length by kernel_rfl)
      clear h0 hult
      go_wp2_with (first
        | (refine wpList_loadG rfl 23 (.tmp 16) rfl g2 0 rfl (byt z32) _ (by exact rangeAt_blk HH7.out) Tryd.underlying23 rfl HZL.out ?_)
        | (refine wpList_loadG (by kernel_rfl) 23 (.tmp 16) rfl g2 0 rfl (byt z32) _ (by exact rangeAt_blk HH7.out) Tryd.underlying23 rfl HZL.out ?_)
        | (refine wpList_load_row rfl 23 (.tmp 16) rfl g2 rfl 23 (vb z32) (0, 0) _ HH7.out Tryd.underlying23 rfl HUS.out ?_)
        | (go_at_call 9; (refine (HAW.out W7 HX7.out.kb.bel).mono ?_); rintro e W9 ⟨rfl, hb⟩; have HB9 := Lib.hid (HX7.out.kb.bel.trans (hb.mono HX7.out.kb.bel.size)); clear hb))
      go_ret
      exact ⟨rfl, HB9.out⟩
  · rw [if_neg h48] at HE
    have hfe := HE.out
    subst hfe
    rw [if_neg (by decide)] at HU
    have hup := HU.out
    subst hup
    have q3 : ((b.length : Int) == 48) = false := by rw [beq_eq_false_iff_ne]; omega
    have q4 : ¬ (b.length : Int) = 48 := by omega
    clear HOC HE h48 hult
    go_wp2_with (first
      | (refine wpList_load_row rfl 23 (.tmp 16) rfl g2 rfl 23 (vb z32) (0, 0) _ HH6.out Tryd.underlying23 rfl HUS.out ?_)
      | (go_at_call 9; (refine (HAW.out W6 HX6.out.kb.bel).mono ?_); rintro e W9 ⟨rfl, hb⟩; have HB9 := Lib.hid (HX6.out.kb.bel.trans (hb.mono HX6.out.kb.bel.size)); clear hb))
    go_ret
    exact ⟨rfl, HB9.out⟩
end Go.Proofs.YtaikejlcpnelpaaDoor
namespace Go.Proofs.YtaikejlcpnelpaaDoor
open Go Go.ChangeShapes Go.WideShapes Go.ChangeAt Go.RowKit
set_option maxRecDepth 100000 in
theorem boxWraps_lifted (os : Os) (started : os.Started) (H : Type) (enc : TypeId × Value → H) :
    ReturnsInHanded {} Tryd.checked os 6 .any (fun w args => (Rows.boxWrapsSpec.pre enc Tryd.prog Tryd.f6 [] false w args ∧ laidMetH Tryd.prog laidQ w) ∧ sizedMet enc Tryd.prog Tryd.f6 (OpenSpec.ofChange Rows.boxWrapsSpec) false w args) (Rows.boxWrapsSpec.post enc Tryd.prog Tryd.f6 false true false false) := by
  refine liftQ started _ rfl (by kernel_rfl) Tryd.func6 ⟨rfl, fun H ds h => ?_⟩ rfl (of_decide_eq_true (by kernel_rfl))
    (ChangeSpec.witness_shaped (enc := enc) (C := Tryd.checked) (os := os) (X := fun w _ => laidMetH Tryd.prog laidQ w) false (World.doorLaid Tryd.prog 400 os) #[.agg (Array.replicate 32 (.int .u8 0)), .agg (Array.replicate 12 (.int .u8 0)), .string ByteArray.empty, .int .u32 0, .agg (Array.replicate 32 (.int .u8 0)), .slice none 0 0] 8 rfl (World.shaped_of_RefB (by kernel_rfl) (by kernel_rfl)) (by kernel_rfl) (by kernel_rfl) (by kernel_rfl) (door_met os _)) ?_
  · match ds, h with
    | [_, _, _, _, _, _], _ => rfl
  · intro W base args ds ps hq hval hA hlt
    rw [Tryd.params6] at hA hval
    obtain ⟨v0, vs0, d0, ds0, p0, q0, hargs, rfl, rfl, h0, r0⟩ := trodAll_cons hA
    obtain ⟨v1, vs1, d1, ds1, p1, q1, rfl, rfl, rfl, h1, r1⟩ := trodAll_cons r0
    obtain ⟨v2, vs2, d2, ds2, p2, q2, rfl, rfl, rfl, h2, r2⟩ := trodAll_cons r1
    obtain ⟨v3, vs3, d3, ds3, p3, q3, rfl, rfl, rfl, h3, r3⟩ := trodAll_cons r2
    obtain ⟨v4, vs4, d4, ds4, p4, q4, rfl, rfl, rfl, h4, r4⟩ := trodAll_cons r3
    obtain ⟨v5, vs5, d5, ds5, p5, q5, rfl, rfl, rfl, h5, r5⟩ := trodAll_cons r4
    obtain ⟨rfl, rfl, rfl⟩ := trodAll_nil r5
    obtain rfl : args = #[v0, v1, v2, v3, v4, v5] := by cases args; simp_all
    obtain ⟨k0, rfl, kl0, ks0⟩ := open_key (hval 0 23 v0 rfl rfl) h0
    obtain ⟨k1, rfl, kl1, ks1⟩ := open_nonce (hval 1 25 v1 rfl rfl) h1
    obtain ⟨s2, rfl, rfl, rfl, hs2⟩ := Go.ChangeMaps.open_string Tryd.underlying9 (hval 2 9 v2 rfl rfl) h2
    obtain ⟨a3, rfl, rfl, rfl, w3⟩ := open_int Tryd.underlying26 (hval 3 26 v3 rfl rfl) h3
    have hb3 := bounds_u32 w3
    obtain ⟨n3, rfl⟩ := Int.eq_ofNat_of_zero_le hb3.1
    obtain ⟨k4, rfl, kl4, ks4⟩ := open_key (hval 4 23 v4 rfl rfl) h4
    obtain ⟨A5, l5, cap5, rfl, hl5, hr5, hm5⟩ := open_bytes (hval 5 30 v5 rfl rfl) h5
    have hc5 := cap_bytes h5
    exact wraps_c k0 k1 k4 l5 s2 n3 A5 cap5 W kl0 ks0 kl1 ks1 kl4 ks4 (by simpa [maxLen] using hs2) (by omega) hr5 hl5 hc5 (by simpa [maxLen] using hm5) hq
theorem boxWraps_row : Rows.BoxWrapsSaid :=
  OpenClaim.holds_of_wide 6 Tryd.f6 rfl rfl rfl rfl rfl rfl rfl ⟨rfl, rfl, rfl, rfl, rfl⟩ rfl rfl rfl rfl rfl (by kernel_rfl) Tryd.func6 (by kernel_rfl)
    (of_decide_eq_true (by kernel_rfl)) (by unfold Func.isWrapper; rw [if_neg (by decide +kernel)]; exact ⟨rfl, rfl⟩)
    (fun os started H enc _ => boxWraps_lifted os started H enc)
theorem boxWraps_holds : Rows.BoxWrapsCardSaid :=
  Claim7.holds_tied_plain_at .later [] [.data] true (true, "d8d9edc23ed2f81f3b892f24cc9191527c221c12c804fcbb8e9d7c52408ff666") false
    boxWraps_row (fun _ h => by cases h) (by kernel_rfl) (fun _ h => by cases h) boxWraps_row_tie rfl ⟨rfl, rfl⟩ (by kernel_rfl) rfl
    (fun f fn hf hfn => by
      obtain rfl : f = 6 := Option.some.inj ((show Tryd.prog.funcNamed "quaestor/quaestorlaw16.BoxWraps" = some 6 by kernel_rfl).symm.trans hf) |>.symm
      obtain rfl : fn = Tryd.f6 := (Option.some.inj (Tryd.func6.symm.trans hfn)).symm
      exact ⟨by kernel_rfl, fun j t ht => by
        rw [Tryd.params6] at ht
        have hm : t ∈ [23, 25, 9, 26, 23, 30] := by simpa using Array.mem_of_getElem? ht
        have hall : ([23, 25, 9, 26, 23, 30].all fun u => !Tryd.prog.wantsStandIn u) = true := by kernel_rfl
        exact (show Tryd.prog.wantsStandIn t = false by simpa using List.all_eq_true.1 hall t hm)⟩)
    (by kernel_rfl)
#print axioms boxWraps_holds
end Go.Proofs.YtaikejlcpnelpaaDoor
