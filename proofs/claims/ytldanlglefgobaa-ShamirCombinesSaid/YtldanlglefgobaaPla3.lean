/- Contract: Combine. -/
import Derived.Test.YtldanlglefgobaaIdx
namespace Go.Proofs.Ytldanlglefgobaa
open Go.RowKit
set_option linter.unusedVariables false
/-- what the first j shares come to, at place k -/
def cmb (L : List Nat) (n : Nat) : Nat → Nat → Nat
  | 0, _ => 0
  | j + 1, k => cmb L n j k ^^^ gm (wtl L j n) (shY L j k)
theorem cmb_lt (L : List Nat) (n j k : Nat) : cmb L n j k < 256 := by
  induction j with
  | zero => simp [cmb]
  | succ j ih => exact xor_lt256 ih (gm_lt _ _)
/-- with the share j put in for the first m places -/
def cmbTo (L : List Nat) (n j m : Nat) : List Nat := (List.range 32).map fun k => if k < m then cmb L n (j + 1) k else cmb L n j k
theorem cmbTo_len (L : List Nat) (n j m : Nat) : (cmbTo L n j m).length = 32 := by simp [cmbTo]
theorem cmbTo_at (L : List Nat) (n j m k : Nat) (h : k < 32) : (cmbTo L n j m).getD k 0 = if k < m then cmb L n (j + 1) k else cmb L n j k := by
  simp [cmbTo, List.getD_eq_getElem?_getD, h]
theorem cmbTo_set (L : List Nat) (n j m : Nat) : (cmbTo L n j m).set m (cmb L n (j + 1) m) = cmbTo L n j (m + 1) := by
  apply List.ext_getElem
  · simp [cmbTo]
  · intro i h1 h2
    simp only [cmbTo, List.getElem_set, List.getElem_map, List.getElem_range]
    by_cases h : m = i
    · subst h; simp
    · rw [if_neg h]
      by_cases h3 : i < m
      · rw [if_pos h3, if_pos (by omega)]
      · rw [if_neg h3, if_neg (by omega)]
theorem cmbTo_all (L : List Nat) (n j : Nat) : cmbTo L n j 32 = cmbTo L n (j + 1) 0 := by
  unfold cmbTo
  apply List.map_congr_left
  intro k hk
  rw [if_pos (List.mem_range.1 hk), if_neg (by omega)]
theorem cmbTo_zero (L : List Nat) (n : Nat) : cmbTo L n 0 0 = List.replicate 32 0 := by
  rw [List.eq_replicate_iff]; simp [cmbTo, cmb]
theorem cmbTo_lt (L : List Nat) (n j m : Nat) : ∀ c ∈ cmbTo L n j m, c < 256 := by
  intro c hc
  obtain ⟨i, _, rfl⟩ := List.mem_map.1 hc
  split
  · exact cmb_lt _ _ _ _
  · exact cmb_lt _ _ _ _
/-- what shares are put together to, and the error -/
def comR (L : List Nat) (n : Nat) : List Nat := if n = 0 then List.replicate 32 0 else if plc L n = 0 then cmbTo L n n 0 else List.replicate 32 0
def comE (L : List Nat) (n : Nat) : Int := if n = 0 then 6 else plc L n
theorem comR_len (L : List Nat) (n : Nat) : (comR L n).length = 32 := by
  unfold comR
  split
  · simp
  · split
    · exact cmbTo_len _ _ _ _
    · simp
theorem key_z32 (l : List Nat) (hl : l.length = 32) : z32.size = (vb l).size := by rw [vb_size, hl]; kernel_rfl
theorem z32_vb : z32 = vb (List.replicate 32 0) := rfl
theorem results_row_tmp {P : Program} {fn : Func} {p u : Tmp} {ty : TypeId} (h : fn.results = #[.cell p ty, .tmp u]) (tmps : Array Value) (w : World) (g : Nat) (t : TypeId) (cs : Array Value) (fr : Nat × Nat) (d : TypeDesc)
    (hp : tmps.getD p undef = .pointer (some ⟨g, 0, none⟩)) (hg : w.heap[g]? = some (.cells cs t fr))
    (hu : P.underlying ty = some d) (hd : (match d with | .struct _ | .array _ _ => true | _ => false) = true) (hi : (P.info? ty).map (·.size) = some cs.size) :
    (results fn tmps).run P w = .ok (.tuple #[.agg cs, tmps.getD u undef]) w := by
  rw [results_cell_tmp h, hp]
  simp [asAddr, run_loadVar_row w g t ty cs fr d hg hu hd hi, Result.andThen]
theorem z32_info : (Try.prog.info? 43).map (·.size) = some z32.size := by kernel_rfl
theorem z32_size : z32.size = 32 := by kernel_rfl
theorem z32_ne : ¬ z32 = #[] := fun h => by have h2 := z32_size; rw [h] at h2; simp at h2
set_option maxRecDepth 100000 in
set_option maxHeartbeats 2000000 in
theorem combine_none (A : Option Addr) (cap : Nat) (w : World) :
    Calls Try.prog 26 #[.slice A 0 cap] w fun e w' => e = .returned (.tuple #[.agg z32, .int .i64 6]) ∧ Below w.heap.size w w' := by
  have zs := zero_key
  have zn := z32_size
  have ze := z32_ne
  go_enter Try.func26, Try.ntmps26
  go_wp2_with (first
    | (refine wpList_store_rowTo rfl 43 (.tmp 2) (.tmp 15) rfl rfl w.heap.size z32 rfl rfl 43 z32 (by exact heap_alloc_new _ _) z32_info rfl (by kernel_rfl) ?_))
  (try simp only [Exit.inBlock, Exit.then])
  refine bodyPost_ret (results_row_tmp rfl _ _ w.heap.size 43 z32 (0, 0) _ rfl (Blk.row (old := z32) (heap_alloc_new w _)) Try.underlying43 rfl z32_info) rfl ?_
  exact ⟨rfl, Below.setRow ((Below.refl _ _).alloc (Nat.le_refl _) _) (Nat.le_refl _) _⟩
set_option maxRecDepth 100000 in
set_option maxHeartbeats 2000000 in
theorem combine_bad (n cap : Nat) (ad : Addr) (L : List Nat) (w : World) (hn : 0 < n) (hn2 : n ≤ 1000) (hcap : n ≤ cap) (hcap2 : cap ≤ 9223372036854775807) (hL : L.length = n * 33) (hl : ∀ c ∈ L, c < 256) (hb : ad.block < w.heap.size) (ha : AtA w ad (byt L)) (hp : plc L n ≠ 0) :
    Calls Try.prog 26 #[.slice (some ad) n cap] w fun e w' => e = .returned (.tuple #[.agg z32, .int .i64 (plc L n)]) ∧ Below w.heap.size w w' := by
  have zs := zero_key
  have zn := z32_size
  have ze := z32_ne
  have HPC := Lib.hid (fun W (hb : Below w.heap.size w W) => places_c n cap ad L W hn hn2 hcap hcap2 hL hl (Nat.lt_of_lt_of_le ‹ad.block < w.heap.size› hb.size) (ha.below hb ‹ad.block < w.heap.size›))
  generalize plc L n = E at *
  have tE : (E != 0) = true := bne_iff_ne.2 hp
  clear hp ha hl
  go_enter Try.func26, Try.ntmps26
  go_wp2_with (first
    | (go_at_call 34; ((with_reducible refine (HPC.out _ (by exact (Below.refl _ _).alloc (Nat.le_refl _) _)).mono ?_); rintro e w2 ⟨rfl, hb2⟩; have HB2 := Lib.hid hb2; have HBK := Lib.hid ((Blk.new w 43 z32).below hb2 (by simp)); clear hb2))
    | (refine wpList_store_rowTo rfl 43 (.tmp 2) (.tmp 20) rfl rfl w.heap.size z32 rfl rfl 43 z32 HBK.out z32_info rfl (by kernel_rfl) ?_))
  (try simp only [Exit.inBlock, Exit.then])
  refine bodyPost_ret (results_row_tmp rfl _ _ w.heap.size 43 z32 (0, 0) _ rfl (Blk.row (old := z32) HBK.out) Try.underlying43 rfl z32_info) rfl ?_
  exact ⟨rfl, Below.setRow (((Below.refl _ _).alloc (Nat.le_refl _) _).trans (HB2.out.mono (by simp))) (Nat.le_refl _) _⟩
/-- what Combine keeps in memory -/
structure CmW (w : World) (T G : Nat) (l : List Nat) (wr : World) : Prop where
  bt : TabAt wr T ftab
  bo : Blk wr G 43 (vb l)
  br : Blk wr w.heap.size 43 z32
  bel : Below w.heap.size w wr
  hG : w.heap.size < G
  hTG : T < G
theorem CmW.next {w wr w' : World} {T G : Nat} {l : List Nat} (h : CmW w T G l wr) (hb : Below wr.heap.size wr w') : CmW w T G l w' :=
  ⟨h.bt.below hb (block_lt_tab h.bt), h.bo.below hb h.bo.lt, h.br.below hb h.br.lt, h.bel.trans (hb.mono h.bel.size), h.hG, h.hTG⟩
theorem CmW.drewN {w wr : World} {T G : Nat} {l : List Nat} (h : CmW w T G l wr) (n : Nat) : CmW w T G l (wr.drewN n) := ⟨h.bt, h.bo, h.br, belowDrewN n h.bel, h.hG, h.hTG⟩
theorem CmW.set_ {w wr : World} {T G : Nat} {l : List Nat} (h : CmW w T G l wr) (i v : Nat) : CmW w T G (l.set i v) (wr.setCell ⟨G, i, none⟩ (.int .u8 (v : Int))) :=
  ⟨(Below.heap_setCell wr _ _ T (by show T ≠ G; have := h.hTG; omega)).trans h.bt, by have := h.bo.set_ i (.int .u8 (v : Int)); rw [vb_set] at this; exact this, h.br.far (by show w.heap.size ≠ G; have := h.hG; omega) _, h.bel.setCell (by show w.heap.size ≤ G; have := h.hG; omega) _, h.hG, h.hTG⟩
set_option maxRecDepth 100000 in
set_option maxHeartbeats 2000000 in
theorem combine_ok (n cap : Nat) (ad : Addr) (L : List Nat) (w : World) (hn : 0 < n) (hn2 : n ≤ 1000) (hcap : n ≤ cap) (hcap2 : cap ≤ 9223372036854775807) (hL : L.length = n * 33) (hl : ∀ c ∈ L, c < 256) (hb : ad.block < w.heap.size) (ha : AtA w ad (byt L)) (hp : plc L n = 0) :
    Calls Try.prog 26 #[.slice (some ad) n cap] w fun e w' => e = .returned (.tuple #[.agg (vb (cmbTo L n n 0)), .int .i64 0]) ∧ Below w.heap.size w w' := by
  have zs := zero_key
  have zs2 := zero_share
  have zn := z32_size
  have ze := z32_ne
  have hpc := fun W (hb : Below w.heap.size w W) => places_c n cap ad L W hn hn2 hcap hcap2 hL hl (Nat.lt_of_lt_of_le ‹ad.block < w.heap.size› hb.size) (ha.below hb ‹ad.block < w.heap.size›)
  rw [hp] at hpc
  have HPC := Lib.hid hpc
  have HWC := Lib.hid (fun B i W (hi : i < n) (ht : TabAt W B ftab) (hb : Below w.heap.size w W) => weight_c B n cap i ad L W ht hi hn2 hcap hcap2 hL hl (Nat.lt_of_lt_of_le ‹ad.block < w.heap.size› hb.size) (ha.below hb ‹ad.block < w.heap.size›))
  have HA := Lib.hid ha
  have HL := Lib.hid hl
  clear hpc ha hl hp
  go_enter Try.func26, Try.ntmps26
  go_wp2_with (first
    | (go_at_call 34; ((with_reducible refine (HPC.out _ (by exact (Below.refl _ _).alloc (Nat.le_refl _) _)).mono ?_); rintro e w2 ⟨rfl, hb2⟩; have HB2 := Lib.hid (((Below.refl w.heap.size w).alloc (Nat.le_refl _) (.cells z32 43)).trans (hb2.mono (by simp))); have HBK := Lib.hid ((Blk.new w 43 z32).below hb2 (by simp)); clear hb2))
    | (go_at_call 13; ((with_reducible refine (build_c _).mono ?_); rintro e w3 ⟨rfl, hz3, htab, hb3⟩; have HT := Lib.hid htab; have HB3 := Lib.hid hb3; have HZ3 := Lib.hid hz3; clear htab hb3 hz3)))
  obtain ⟨G, hG⟩ : ∃ G, G = w3.heap.size := ⟨_, rfl⟩
  obtain ⟨T, hT⟩ : ∃ T, T = w2.heap.size := ⟨_, rfl⟩
  have hcm : CmW w T G (cmbTo L n 0 0) (w3.alloc (.cells z32 43)) := by
    rw [hG, hT, cmbTo_zero]
    have h1 := HBK.out.lt
    have h2 := HZ3.out
    exact ⟨(HT.out.below ((Below.refl _ _).alloc (Nat.le_refl _) _) (by omega)), Blk.new _ _ _, (HBK.out.below HB3.out (by omega)).alloc _, ((HB2.out.trans (HB3.out.mono (by omega))).alloc (by omega) _), by omega, by omega⟩
  have HCM := Lib.hid hcm
  clear hcm
  try rw [← hG, ← hT]
  clear hG hT HT HB3 HZ3 HB2 HBK
  go_loopw [25] (fun i wr => ∃ j : Nat, j ≤ n ∧ i = .int .i64 j ∧ CmW w T G (cmbTo L n j 0) wr) (fun i _ => n - (intOf i).toNat)
  case atStart => exact ⟨0, by omega, rfl, HCM.out⟩
  case round =>
    rename World => wr
    obtain ⟨j, hj, rfl, hcm⟩ := hrel
    have HW := Lib.hid hcm
    clear hcm HCM
    by_cases hlt : j < n
    · have hAt := HA.out.below HW.out.bel hb
      have HRow := Lib.hid (hAt.share j)
      have hrl : (shR L j).length = 33 := shR_len hL hlt
      have HSB := Lib.hid (share_bytes (shR L j) hrl)
      have HSS := Lib.hid (share_size (shR L j) hrl)
      have HZS := Lib.hid (z33_vb (shR L j) hrl)
      have hyl : ((shR L j).drop 1).length = 32 := by rw [List.length_drop, hrl]
      have HYB := Lib.hid (key_bytes ((shR L j).drop 1) hyl)
      have HRL := Lib.hid hrl
      have HYL := Lib.hid hyl
      clear hAt hrl hyl
      go_upto_region 11 with (first
        | (refine wpList_load_at rfl 48 (.tmp 28) rfl (ad.add (j * 33)) rfl (shR L j) _ HRow.out Try.underlying48 rfl HSB.out ?_)
        | (refine wpList_store_rowTo rfl 48 (.tmp 8) (.tmp 29) rfl rfl wr.heap.size (vb (shR L j)) rfl rfl 48 z33 (by exact heap_alloc_new _ _) HSS.out HZS.out (vb_one _) ?_))
      obtain ⟨Z, hZ⟩ : ∃ Z, Z = (wr.alloc (.cells z33 48)).setRow wr.heap.size (vb (shR L j)) := ⟨_, rfl⟩
      have hbk : Blk Z wr.heap.size 48 (vb (shR L j)) := by rw [hZ]; exact Blk.row (old := z33) (heap_alloc_new wr _)
      have hbz : Below wr.heap.size wr Z := by rw [hZ]; exact Below.setRow ((Below.refl _ _).alloc (Nat.le_refl _) _) (Nat.le_refl _) _
      rw [← hZ]
      have HBK := Lib.hid hbk
      have HCZ := Lib.hid (HW.out.next hbz)
      clear hbk hbz hZ
      obtain ⟨g, hg⟩ : ∃ g, g = wr.heap.size := ⟨_, rfl⟩
      rw [← hg] at HBK
      rw [← hg]
      clear hg
      have hwl := wtl_lt L j n
      have HCS := Lib.hid (fun k => (show cmb L n (j + 1) k = cmb L n j k ^^^ gm (wtl L j n) (shY L j k) from rfl))
      have HWJ := Lib.hid (HWC.out T j)
      generalize wtl L j n = v at *
      go_upto_region 13 with (first
        | (go_at_call 35; ((with_reducible refine (HWJ.out _ hlt HCZ.out.bt HCZ.out.bel).mono ?_); rintro e w4 ⟨rfl, hb4⟩; have HC4 := Lib.hid (HCZ.out.next hb4); have HB4 := Lib.hid (HBK.out.below hb4 HBK.out.lt); have hrg : AtA w4 ⟨g, 1, none⟩ (byt ((shR L j).drop 1)) := (fun q u hu => by rw [Addr.add_mid, HB4.out.cell (1 + q)]; rw [vb, List.getElem?_toArray, ← hu]; simp only [byt, List.map_drop, List.getElem?_drop]); have HRG := Lib.hid hrg; clear hb4 hrg))
        | (refine wpList_load_at rfl 43 (.tmp 34) rfl ⟨g, 1, none⟩ rfl ((shR L j).drop 1) _ HRG.out Try.underlying43 rfl HYB.out ?_))
      have hYl : (shR L j).tail.length = 32 := by rw [List.length_tail, HRL.out]
      have hYg : ∀ k, k < 32 → (shR L j).tail.getD k 0 = shY L j k := fun k hk => by
        have h := shR_at L j (1 + k) (by omega)
        rw [← List.drop_one, List.getD_eq_getElem?_getD, List.getElem?_drop, ← List.getD_eq_getElem?_getD, h]
        rfl
      generalize (shR L j).tail = Y at *
      have HYl := Lib.hid hYl
      have HYg := Lib.hid hYg
      have hvz : (vb Y).size = 32 := by rw [vb_size, hYl]
      clear hYl hYg
      go_loopw [36] (fun i wr5 => ∃ m : Nat, m ≤ 32 ∧ i = .int .i64 m ∧ CmW w T G (cmbTo L n j m) wr5) (fun i _ => 32 - (intOf i).toNat)
      case atStart => exact ⟨0, by omega, rfl, HC4.out⟩
      case round =>
        rename World => wr5
        obtain ⟨m, hm, rfl, hcm⟩ := hrel
        have HC := Lib.hid hcm
        clear hcm
        by_cases hm32 : m < 32
        · have hix := fun W => run_index_key Y m HYl.out hm32 W
          have hyg := HYg.out m hm32
          rw [hyg] at hix
          have hyl := shY_lt HL.out j m
          have HCM := Lib.hid (HCS.out m)
          have HST := Lib.hid (cmbTo_set L n j m)
          have hcl := cmb_lt L n j m
          have d4 : wr5.cell? ⟨G, m, none⟩ = some (.int .u8 (cmb L n j m : Nat)) := by
            have h := (HC.out.bo.cell m).trans (vb_at _ m (by rw [cmbTo_len]; exact hm32))
            rw [cmbTo_at _ _ _ _ _ hm32, if_neg (by omega)] at h
            exact h
          have f4 : wr5.frozen? ⟨G, m, none⟩ = false := HC.out.bo.free m
          have hgl := gm_lt v (shY L j m)
          have hxc : bits BinOp.xor .u8 (cmb L n j m : Nat) (gm v (shY L j m) : Nat) = ((cmb L n j m ^^^ gm v (shY L j m) : Nat) : Int) := u8_xor_nat _ _ hcl hgl
          have hres := xor_lt256 hcl hgl
          clear hyg
          generalize shY L j m = y at *
          generalize cmb L n j m = c at *
          generalize hcr : c ^^^ gm v y = cr2 at *
          have HCR := Lib.hid hcr
          clear hcr
          go_wp2_with fail
          have HTB := Lib.hid HC.out.bt
          have e37 : decide ((m : Int) < 32) = true := decide_eq_true (by omega)
          go_region_with (go_at_call 16; ((refine (fmul_c T v y _ (by first | exact HTB.out | exact HTB.out.drewN 1) hwl hyl).mono ?_); rintro e w6 ⟨rfl, n6, rfl⟩))
          all_goals (go_wp2_with fail)
          all_goals exact ⟨⟨m + 1, by omega, by go_num, (by have h := (HC.out.drewN (1 + n6)).set_ m cr2; rw [← HCM.out, HST.out] at h; rw [← HCM.out]; exact h)⟩, by simp [intOf]; omega⟩
        · have hm2 : m = 32 := by omega
          have hc := HC.out
          rw [hm2, cmbTo_all] at hc
          have HC2 := Lib.hid hc
          clear hc hm2
          go_wp2_with fail
          go_roundw
          case rel =>
            go_light
            exact ⟨j + 1, by omega, by go_num, HC2.out⟩
          case measure => simp [intOf]; omega
    · have hjn : j = n := by omega
      have hc := HW.out
      rw [hjn] at hc
      have HC2 := Lib.hid hc
      have hol := cmbTo_len L n n 0
      have hos : (Try.prog.info? 43).map (·.size) = some (vb (cmbTo L n n 0)).size := key_size _ hol
      have HOS := Lib.hid hos
      have HOL := Lib.hid (key_z32 _ hol)
      clear hc hjn hol hos
      go_wp2_with (first
        | (refine wpList_load_row rfl 43 (.tmp 6) rfl G rfl 43 _ _ _ HC2.out.bo Try.underlying43 rfl HOS.out ?_)
        | (refine wpList_store_rowTo rfl 43 (.tmp 2) (.tmp 51) rfl rfl w.heap.size (vb (cmbTo L n n 0)) rfl rfl 43 z32 HC2.out.br HOS.out HOL.out (vb_one _) ?_))
      (try simp only [Exit.inBlock, Exit.then])
      refine bodyPost_ret (results_row_tmp rfl _ _ w.heap.size 43 (vb (cmbTo L n n 0)) (0, 0) _ rfl (Blk.row (old := z32) HC2.out.br) Try.underlying43 rfl HOS.out) rfl ?_
      exact ⟨rfl, Below.setRow HC2.out.bel (Nat.le_refl _) _⟩
theorem combine_c (n cap : Nat) (A : Option Addr) (L : List Nat) (w : World) (hn2 : n ≤ 1000) (hcap : n ≤ cap) (hcap2 : cap ≤ 9223372036854775807) (hl : ∀ c ∈ L, c < 256) (hr : RdS w w.heap.size A n L) :
    Calls Try.prog 26 #[.slice A n cap] w fun e w' => e = .returned (.tuple #[.agg (vb (comR L n)), .int .i64 (comE L n)]) ∧ Below w.heap.size w w' := by
  unfold comR comE
  rcases Nat.eq_zero_or_pos n with h0 | h0
  · subst h0
    exact combine_none A cap w
  · obtain ⟨ad, rfl, hb, ha⟩ := hr.open_ h0
    have h0n : ¬ n = 0 := by omega
    simp only [h0n, if_false]
    by_cases hp : plc L n = 0
    · rw [if_pos hp, hp]
      exact combine_ok n cap ad L w h0 hn2 hcap hcap2 hr.1 hl hb ha hp
    · rw [if_neg hp]
      exact combine_bad n cap ad L w h0 hn2 hcap hcap2 hr.1 hl hb ha hp
end Go.Proofs.Ytldanlglefgobaa
