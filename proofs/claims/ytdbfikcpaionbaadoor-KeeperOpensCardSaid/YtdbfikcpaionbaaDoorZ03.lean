/- Parts, one behind the other: In2 Bs1 Byt0 Byt1 ShaB Byt2 Byt3 Shw1 Shw2 Shw3 Shw4. -/
import Derived.Test.YtdbfikcpaionbaaDoorZ02
import Derived.Test.YtdbfikcpaionbaaDoorChecked
import Derived.Shelf.Abstract
import Derived.WalkKit
import Derived.WalkSpells
import Derived.Outline
import Derived.Deep.Light
import Derived.BigRegion
import Derived.BigQuiet
import Derived.Lib.Hide
import Derived.Laws.MakeOwn
import Derived.Laws.BitsAllLaws
import Derived.StillTailTactics
import Derived.Laws.ResultCell
import Derived.Laws.Rows
import Derived.Great.BuildSlice
import Derived.Laws.CopyOwn
import Derived.Deep.MidRow
import Derived.Lib.AppendZerosOnto
/- Contract: slices.Insert at shares, walked. -/
namespace Go.Proofs.YtdbfikcpaionbaaDoor
open Go.RowKit
set_option linter.unusedVariables false
set_option linter.unusedSimpArgs false
def InsR (w : World) (base n : Nat) (v : Value) (l : List Nat) (e : Ending) (w' : World) : Prop :=
  ∃ v', e = .returned v' ∧ OwnS w' base v' n l ∧ Only (fun k => v.ownBlock = some k) w w' ∧ (v'.ownBlock = v.ownBlock ∨ v'.ownBlock = some w.heap.size)
theorem share_sz : (Tryd.prog.info? 31).map (·.size) = some 33 := by kernel_rfl
theorem own_row {w : World} {base n cap g : Nat} {l : List Nat} {cur : Array Value} (hb : base ≤ g) (hg : w.heap[g]? = some (.cells cur 31 (0, 0))) (hl : l.length = n * 33) (hn : n ≤ cap) (hm : cap ≤ maxLen) (hc : cur.size = cap * 33) (R : List Value) (ht : cur.toList = byt l ++ R) :
    OwnS w base (.slice (some ⟨g, 0, none⟩) n cap) n l :=
  ⟨by rw [byt_len]; exact hl, .inr ⟨g, cap, cur, rfl, hb, hg, hn, hm, hc, by rw [ht, take_app_len _ _ _ (by rw [byt_len]; exact hl.symm)]⟩⟩
set_option maxRecDepth 100000 in
set_option maxHeartbeats 2000000 in
/-- there is room -/
theorem insert_in (base n i cap g vk : Nat) (L s : List Nat) (w : World) (hi : i < n) (hroom : n + 1 ≤ cap) (hm : cap ≤ maxLen) (hL : L.length = n * 33) (hs : s.length = 33) (hb : base ≤ g) (cur : Array Value) (hg : w.heap[g]? = some (.cells cur 31 (0, 0))) (hcs : cur.size = cap * 33) (hct : cur.toList.take (n * 33) = byt L)
    (hv : Blk w vk 31 (vb s)) (hne : vk ≠ g) :
    Calls Tryd.prog 23 #[.slice (some ⟨g, 0, none⟩) n cap, .int .i64 i, .slice (some ⟨vk, 0, none⟩) 1 1] w (InsR w base (n + 1) (.slice (some ⟨g, 0, none⟩) n cap) (insL L i s)) := by
  have q1 : ¬ ((i : Int) = (n : Int)) := by omega
  have q2 : ¬ ((n : Int) + 1 > (cap : Int)) := by omega
  have q3 : (i : Int) ≤ (n : Int) := by omega
  have q4 : ¬ (cap = i) := by omega
  have q5 : ¬ (cap = i + 1) := by omega
  have hm' : (cap : Int) ≤ 9223372036854775807 := by simp only [maxLen] at hm; omega
  have hX : byt L = (byt L).take (i * 33) ++ (byt L).drop (i * 33) := (List.take_append_drop _ _).symm
  have hl1 : ((byt L).take (i * 33)).length = i * 33 := by rw [List.length_take, byt_len, hL]; omega
  have hl2 : ((byt L).drop (i * 33)).length = (n - i) * 33 := by rw [List.length_drop, byt_len, hL]; omega
  have hcur : cur.toList = (byt L).take (i * 33) ++ (byt L).drop (i * 33) ++ cur.toList.drop (n * 33) := by
    rw [← hX, ← hct, List.take_append_drop]
  have hlR : (cur.toList.drop (n * 33)).length = (cap - n) * 33 := by rw [List.length_drop, Array.length_toList, hcs]; omega
  have hat : ∀ W : World, W.heap[g]? = some (.cells cur 31 (0, 0)) → ∀ j u, ((byt L).drop (i * 33))[j]? = some u → W.cell? ((⟨g, i * 33, none⟩ : Addr).add j) = some u := fun W hW j u hu => by
    rw [Addr.add_mid]
    refine cellOf hW ?_
    rw [← Array.getElem?_toList, hcur, List.append_assoc, List.getElem?_append_right (by omega), hl1, show i * 33 + j - i * 33 = j by omega, List.getElem?_append_left (by
      rcases Nat.lt_or_ge j ((byt L).drop (i * 33)).length with h | h
      · exact h
      · rw [List.getElem?_eq_none h] at hu; cases hu)]
    exact hu
  have hone2 : ∀ u ∈ (byt L).drop (i * 33), u.oneCell' = true := fun u hu => byt_one L u (List.mem_of_mem_drop hu)
  have hs1 : (spl cur (i * 33 + 33) ((byt L).drop (i * 33))).size = cap * 33 := by rw [spl_size (by rw [hl2, hcs]; omega), hcs]
  obtain ⟨R', hfin⟩ := spl_shift cur _ _ (byt s) _ (i * 33) 33 hcur hl1.symm (by rw [byt_len, hs]) (by rw [hlR]; omega)
  have hs2 : (spl (spl cur (i * 33 + 33) ((byt L).drop (i * 33))) (i * 33) (byt s)).size = cap * 33 := by rw [spl_size (by rw [hs1, byt_len, hs]; omega), hs1]
  have hcp1 : ∀ (W : World) ty dl dc sl sc, W.heap[g]? = some (.cells cur 31 (0, 0)) → Nat.min sl dl = n - i → (Builtin.copy_ #[38, 38] ty #[.slice (some ⟨g, (i + 1) * 33, none⟩) dl dc, .slice (some ⟨g, i * 33, none⟩) sl sc]).run Tryd.prog W = .ok (goInt ((n - i : Nat) : Int)) (W.setRow g (spl cur (i * 33 + 33) ((byt L).drop (i * 33)))) := fun W ty dl dc sl sc hW h => by
    have := run_copyK (P := Tryd.prog) W 38 38 ty 31 33 g (i * 33 + 33) dl dc ⟨g, i * 33, none⟩ sl sc cur 31 _ Tryd.underlying38 share_sz hW (by rw [hl2, h]) (hat W hW) (by rw [hl2, hcs]; omega) hone2
    rw [h] at this
    rw [show (i + 1) * 33 = i * 33 + 33 by omega]
    exact this
  obtain ⟨C1, hC1⟩ : ∃ C1, C1 = spl cur (i * 33 + 33) ((byt L).drop (i * 33)) := ⟨_, rfl⟩
  rw [← hC1] at hcp1 hs1 hfin hs2
  have hcp2 : ∀ (W : World) ty dl dc, W.heap[g]? = some (.cells C1 31 (0, 0)) → Blk W vk 31 (vb s) → 1 ≤ dl → (Builtin.copy_ #[38, 38] ty #[.slice (some ⟨g, i * 33, none⟩) dl dc, .slice (some ⟨vk, 0, none⟩) 1 1]).run Tryd.prog W = .ok (goInt 1) (W.setRow g (spl C1 (i * 33) (byt s))) := fun W ty dl dc hW hV h => by
    have hmn : Nat.min 1 dl = 1 := Nat.min_eq_left h
    have := run_copyK (P := Tryd.prog) W 38 38 ty 31 33 g (i * 33) dl dc ⟨vk, 0, none⟩ 1 1 C1 31 (byt s) Tryd.underlying38 share_sz hW (by rw [byt_len, hs, hmn]) (fun j u hu => by
      rw [Addr.add_mid, Nat.zero_add]
      exact cellOf hV (by simpa [vb] using hu)) (by rw [byt_len, hs, hs1]; omega) (byt_one s)
    rw [hmn] at this
    exact this
  obtain ⟨C2, hC2⟩ : ∃ C2, C2 = spl C1 (i * 33) (byt s) := ⟨_, rfl⟩
  rw [← hC2] at hcp2 hfin hs2
  have hov : ∀ lb cb, (callFunc 32 #[.slice (some ⟨vk, 0, none⟩) 1 1, .slice (some ⟨g, (i + 1) * 33, none⟩) lb cb]).run Tryd.prog w = .ok (.value (.bool false)) w := fun lb cb => by
    rw [run_callFunc_extern Tryd.func32 (by kernel_rfl) (by kernel_rfl) (by kernel_rfl) (e := Extern.SlicesOverlaps.overlaps #[38, 38] #[4]) (by kernel_rfl),
      Lib.run_overlaps_apart w 38 4 31 Tryd.underlying38 33 Tryd.sizeOf31 ⟨vk, 0, none⟩ ⟨g, (i + 1) * 33, none⟩ 1 1 lb cb hne 31 31 (vb s).size (cap * 33) (by unfold Blk at hv; simp [World.shape?, hv]) (by simp [World.shape?, hg, hcs]) (by omega) (hv.free 0) (hv.free _)]
    rfl
  have HFIN := Lib.hid hfin
  have HCP1 := Lib.hid hcp1
  have HCP2 := Lib.hid hcp2
  have HG := Lib.hid hg
  have HV := Lib.hid hv
  have HL2 := Lib.hid hl2
  have HS2 := Lib.hid hs2
  clear hX hl1 hl2 hcur hlR hat hone2 hs1 hfin hs2 hcp1 hC1 hcp2 hC2 hg hv hct hcs
  have hw1 : IntKind.i64.wrap ((i : Int) + 1) = (i : Int) + 1 := by rw [IntKind.wrap_i64]; omega
  have hb1 : (0 : Int) ≤ (i : Int) + 1 := by omega
  have htn : ((i : Int) + 1).toNat = i + 1 := by omega
  have hb3 : (i : Int) + 1 ≤ (n : Int) + 1 := by omega
  have hb6 : (i : Int) ≤ (n : Int) + 1 := by omega
  go_enter Tryd.func23, Tryd.ntmps23
  go_upto_region 15 with (simp only [hov])
  refine wp_region_still_tail 8 (by kernel_rfl) (by kernel_rfl) ?_
  simp only [List.take_succ_cons, List.take_zero, List.drop_succ_cons, List.drop_zero]
  repeat still_step
  try refine wpStill_nil ?_
  change wpList _ _ _ _ _ w.drew
  go_upto_region 16 with (refine wpList_copyK rfl _ _ 38 38 rfl _ _ rfl rfl (HCP1.out w.drew _ _ _ _ _ HG.out (by simp only [Nat.min_def]; split <;> omega)) ?_)
  have HG1 := Lib.hid (show (w.drew.setRow g C1).heap[g]? = some (.cells C1 31 (0, 0)) from setRow_heap w.drew g cur C1 31 (0, 0) HG.out)
  have HV1 := Lib.hid (show Blk (w.drew.setRow g C1) vk 31 (vb s) from (setRow_other w.drew g vk C1 hne).trans HV.out)
  go_wp2_with (refine wpList_copyK rfl _ _ 38 38 rfl _ _ rfl rfl (HCP2.out (w.drew.setRow g C1) _ _ _ HG1.out HV1.out (by omega)) ?_)
  go_ret
  refine ⟨_, rfl, own_row hb (setRow_heap _ g C1 C2 31 (0, 0) HG1.out) (insL_len hL hs (by omega)) hroom hm HS2.out R' ?_, ?_, .inl rfl⟩
  · rw [HFIN.out]
    simp only [insL, byt, List.map_append, List.map_take, List.map_drop]
  · exact ((Only.refl (fun k => (Value.slice (some ⟨g, 0, none⟩) n cap).ownBlock = some k) w).drew.setRow (fun _ => rfl) C1).setRow (fun _ => rfl) C2
theorem zcs_size (z : Array Value) (n : Nat) : (Builtin.zeroCells z n).size = n * z.size := by simp [Builtin.zeroCells]
set_option maxRecDepth 100000 in
set_option maxHeartbeats 2000000 in
/-- there is no room -/
theorem insert_grow (base n i cap g vk : Nat) (L s : List Nat) (w : World) (hi : i < n) (hn : n ≤ 1000) (hnc : n ≤ cap) (hroom : cap < n + 1) (hL : L.length = n * 33) (hs : s.length = 33) (hbw : base ≤ w.heap.size) (cur : Array Value) (hg : w.heap[g]? = some (.cells cur 31 (0, 0))) (hcs : cur.size = cap * 33) (hct : cur.toList.take (n * 33) = byt L)
    (hv : Blk w vk 31 (vb s)) :
    Calls Tryd.prog 23 #[.slice (some ⟨g, 0, none⟩) n cap, .int .i64 i, .slice (some ⟨vk, 0, none⟩) 1 1] w (InsR w base (n + 1) (.slice (some ⟨g, 0, none⟩) n cap) (insL L i s)) := by
  obtain ⟨i0, hi0, hz0, hz1, hz2⟩ : ∃ i, Tryd.prog.info? 31 = some i ∧ i.zero = some (.agg z33) ∧ i.size = 33 ∧ i.bytes = 33 := ⟨_, rfl, by kernel_rfl, by kernel_rfl, by kernel_rfl⟩
  have q1 : ¬ ((i : Int) = (n : Int)) := by omega
  have q2 : (cap : Int) < (n : Int) + 1 := by omega
  have q3 : (i : Int) ≤ (n : Int) := by omega
  have q4 : ¬ (cap = i) := by omega
  have hX : byt L = (byt L).take (i * 33) ++ (byt L).drop (i * 33) := (List.take_append_drop _ _).symm
  have hl1 : ((byt L).take (i * 33)).length = i * 33 := by rw [List.length_take, byt_len, hL]; omega
  have hl2 : ((byt L).drop (i * 33)).length = (n - i) * 33 := by rw [List.length_drop, byt_len, hL]; omega
  have hcur : cur.toList = (byt L).take (i * 33) ++ (byt L).drop (i * 33) ++ cur.toList.drop (n * 33) := by
    rw [← hX, ← hct, List.take_append_drop]
  have hgw : g < w.heap.size := (Array.getElem?_eq_some_iff.1 hg).1
  have hvw : vk < w.heap.size := Blk.lt hv
  have hat : ∀ W : World, W.heap[g]? = some (.cells cur 31 (0, 0)) → ∀ j u, ((byt L).drop (i * 33))[j]? = some u → W.cell? ((⟨g, i * 33, none⟩ : Addr).add j) = some u := fun W hW j u hu => by
    rw [Addr.add_mid]
    refine cellOf hW ?_
    rw [← Array.getElem?_toList, hcur, List.append_assoc, List.getElem?_append_right (by omega), hl1, show i * 33 + j - i * 33 = j by omega, List.getElem?_append_left (by
      rcases Nat.lt_or_ge j ((byt L).drop (i * 33)).length with h | h
      · exact h
      · rw [List.getElem?_eq_none h] at hu; cases hu)]
    exact hu
  have hone2 : ∀ u ∈ (byt L).drop (i * 33), u.oneCell' = true := fun u hu => byt_one L u (List.mem_of_mem_drop hu)
  have hold : (Builtin.firstCells i0.size i (.slice (some ⟨g, 0, none⟩) i cap)).run Tryd.prog w.drew = .ok ((byt L).take (i * 33)).toArray w.drew := by
    rw [hz1]
    exact run_firstCells_some w.drew 33 i ⟨g, 0, none⟩ i cap ((byt L).take (i * 33)) hl1 (fun j u hj => by
      rw [Addr.add_mid, Nat.zero_add]
      refine cellOf (show w.drew.heap[g]? = _ from hg) ?_
      rw [← Array.getElem?_toList, hcur, List.append_assoc, List.getElem?_append_left (by
        rcases Nat.lt_or_ge j ((byt L).take (i * 33)).length with h | h
        · exact h
        · rw [List.getElem?_eq_none h] at hj; cases hj)]
      exact hj)
  have hkk : (n : Int) + 1 - (i : Int) = ((n + 1 - i : Nat) : Int) := by omega
  have hik : i + (n + 1 - i) = n + 1 := by omega
  have hrz : ∀ ty, (Builtin.append_ #[38, 3] ty #[.slice (some ⟨g, 0, none⟩) i cap, .int .i64 ((n : Int) + 1 - (i : Int))]).run Tryd.prog w =
      .ok (.slice (some ⟨w.heap.size, 0, none⟩) (n + 1) (grownCap w (n + 1) cap 31)) (w.drew.alloc (.cells (((byt L).take (i * 33)).toArray ++ Builtin.zeroCells z33 (n + 1 - i) ++ Builtin.zeroCells z33 (grownCap w (n + 1) cap 31 - (n + 1))) 31)) := fun ty => by
    have h := Lib.run_append_grow_zeros (P := Tryd.prog) w 38 3 ty 31 i0 (.agg z33) .i64 .i64 Tryd.underlying38 Tryd.underlying3 hi0 hz0 (some ⟨g, 0, none⟩) i cap _ hold (n + 1 - i) (by omega) (by omega) (by omega) (by omega) (by rw [hz2]; omega) (by rw [hz2, hik]; exact growslice_fits hroom (by omega))
    rw [hik] at h
    rw [hkk]
    exact h
  have hGn : n + 1 ≤ grownCap w (n + 1) cap 31 := grownCap_ge w _ _ _
  have hG63 := grownCap_le_maxLen w (n + 1) cap 31 (by unfold maxLen; omega)
  generalize grownCap w (n + 1) cap 31 = G at *
  obtain ⟨ROW, hROW⟩ : ∃ ROW : Array Value, ROW = ((byt L).take (i * 33)).toArray ++ Builtin.zeroCells z33 (n + 1 - i) ++ Builtin.zeroCells z33 (G - (n + 1)) := ⟨_, rfl⟩
  rw [← hROW] at hrz
  have hz33 : z33.size = 33 := z33_size
  have hRs : ROW.size = G * 33 := by
    rw [hROW, Array.size_append, Array.size_append, zcs_size, zcs_size, hz33, List.size_toArray, hl1]; omega
  have hRl : ROW.toList = (byt L).take (i * 33) ++ ROW.toList.drop (i * 33) := by
    have h : ROW.toList.take (i * 33) = (byt L).take (i * 33) := by
      rw [hROW, Array.toList_append, Array.toList_append, List.append_assoc, take_app_len _ _ _ hl1.symm]
    rw [← h, List.take_append_drop]
  obtain ⟨R', hfin⟩ := spl_then ROW _ ((byt L).drop (i * 33)) (byt s) _ (i * 33) 33 hRl hl1.symm (by rw [byt_len, hs]) (by rw [hl2, List.length_drop, Array.length_toList, hRs]; omega)
  have hs1 : (spl ROW (i * 33) (byt s)).size = G * 33 := by rw [spl_size (by rw [byt_len, hs, hRs]; omega), hRs]
  have hs2 : (spl (spl ROW (i * 33) (byt s)) (i * 33 + 33) ((byt L).drop (i * 33))).size = G * 33 := by rw [spl_size (by rw [hl2, hs1]; omega), hs1]
  obtain ⟨Z, hZ⟩ : ∃ Z, Z = w.drew.alloc (.cells ROW 31) := ⟨_, rfl⟩
  rw [← hZ] at hrz
  have hZR : Z.heap[w.heap.size]? = some (.cells ROW 31 (0, 0)) := by rw [hZ]; exact heapNew w.drew _
  have hZg : Z.heap[g]? = some (.cells cur 31 (0, 0)) := by rw [hZ]; exact (Below.heap_alloc w.drew _ g hgw).trans hg
  have hZv : Blk Z vk 31 (vb s) := by rw [hZ]; exact (Below.heap_alloc w.drew _ vk hvw).trans hv
  have hZo : Only (fun k => (Value.slice (some ⟨g, 0, none⟩) n cap).ownBlock = some k) w Z := by rw [hZ]; exact (Only.refl _ w).drew.alloc _
  obtain ⟨C1, hC1⟩ : ∃ C1, C1 = spl ROW (i * 33) (byt s) := ⟨_, rfl⟩
  rw [← hC1] at hs1 hfin hs2
  have hcp1 : ∀ (W : World) ty dl dc, W.heap[w.heap.size]? = some (.cells ROW 31 (0, 0)) → Blk W vk 31 (vb s) → 1 ≤ dl → (Builtin.copy_ #[38, 38] ty #[.slice (some ⟨w.heap.size, i * 33, none⟩) dl dc, .slice (some ⟨vk, 0, none⟩) 1 1]).run Tryd.prog W = .ok (goInt 1) (W.setRow w.heap.size C1) := fun W ty dl dc hW hV h => by
    have hmn : Nat.min 1 dl = 1 := Nat.min_eq_left h
    have := run_copyK (P := Tryd.prog) W 38 38 ty 31 33 w.heap.size (i * 33) dl dc ⟨vk, 0, none⟩ 1 1 ROW 31 (byt s) Tryd.underlying38 share_sz hW (by rw [byt_len, hs, hmn]) (fun j u hu => by
      rw [Addr.add_mid, Nat.zero_add]
      exact cellOf hV (by simpa [vb] using hu)) (by rw [byt_len, hs, hRs]; omega) (byt_one s)
    rw [hmn, ← hC1] at this
    exact this
  have hcp2 : ∀ (W : World) ty dl dc sl sc, W.heap[w.heap.size]? = some (.cells C1 31 (0, 0)) → W.heap[g]? = some (.cells cur 31 (0, 0)) → Nat.min sl dl = n - i → (Builtin.copy_ #[38, 38] ty #[.slice (some ⟨w.heap.size, (i + 1) * 33, none⟩) dl dc, .slice (some ⟨g, i * 33, none⟩) sl sc]).run Tryd.prog W = .ok (goInt ((n - i : Nat) : Int)) (W.setRow w.heap.size (spl C1 (i * 33 + 33) ((byt L).drop (i * 33)))) := fun W ty dl dc sl sc hW hWg h => by
    have := run_copyK (P := Tryd.prog) W 38 38 ty 31 33 w.heap.size (i * 33 + 33) dl dc ⟨g, i * 33, none⟩ sl sc C1 31 _ Tryd.underlying38 share_sz hW (by rw [hl2, h]) (hat W hWg) (by rw [hl2, hs1]; omega) hone2
    rw [h] at this
    rw [show (i + 1) * 33 = i * 33 + 33 by omega]
    exact this
  obtain ⟨C2, hC2⟩ : ∃ C2, C2 = spl C1 (i * 33 + 33) ((byt L).drop (i * 33)) := ⟨_, rfl⟩
  rw [← hC2] at hcp2 hfin hs2
  have HFIN := Lib.hid hfin
  have HCP1 := Lib.hid hcp1
  have HCP2 := Lib.hid hcp2
  have HRZ := Lib.hid hrz
  have HZR := Lib.hid hZR
  have HZG := Lib.hid hZg
  have HZV := Lib.hid hZv
  have HZO := Lib.hid hZo
  have HS2 := Lib.hid hs2
  clear hX hl1 hl2 hcur hat hone2 hold hrz hRs hRl hs1 hfin hs2 hcp1 hC1 hcp2 hC2 hg hv hct hcs hROW hz33 hZR hZg hZv hZo hZ hi0 hz0 hz1 hz2 hkk hik
  have hne1 : g ≠ w.heap.size := by omega
  have hne2 : vk ≠ w.heap.size := by omega
  have hGi : ¬ (G = i) := by omega
  have hGim : ¬ (G = i + 1) := by omega
  have hw1 : IntKind.i64.wrap ((i : Int) + 1) = (i : Int) + 1 := by rw [IntKind.wrap_i64]; omega
  have hb1 : (0 : Int) ≤ (i : Int) + 1 := by omega
  have htn : ((i : Int) + 1).toNat = i + 1 := by omega
  have hb3 : (i : Int) + 1 ≤ (n : Int) + 1 := by omega
  have hb6 : (i : Int) ≤ (n : Int) + 1 := by omega
  have hm' : (G : Int) ≤ 9223372036854775807 := by simp only [maxLen] at hG63; omega
  generalize hWS : w.heap.size = ws at *
  go_enter Tryd.func23, Tryd.ntmps23
  go_upto_region 11 with (first
    | (at_builtin; refine Lib.wpList_append_run _ rfl _ _ _ _ rfl _ _ rfl rfl _ _ (HRZ.out _) ?_)
    | (refine wpList_copyK rfl _ _ 38 38 rfl _ _ rfl rfl (HCP1.out Z _ _ _ HZR.out HZV.out (by omega)) ?_))
  have HG1 := Lib.hid (show (Z.setRow ws C1).heap[ws]? = some (.cells C1 31 (0, 0)) from setRow_heap Z ws ROW C1 31 (0, 0) HZR.out)
  have HV1 := Lib.hid (show (Z.setRow ws C1).heap[g]? = some (.cells cur 31 (0, 0)) from (setRow_other Z ws g C1 hne1).trans HZG.out)
  have HO1 := Lib.hid (HZO.out.setRow (g := ws) (fun h => by omega) C1)
  generalize Z.setRow ws C1 = Z1 at *
  refine wp_region_still_tail 8 (by kernel_rfl) (by kernel_rfl) ?_
  simp only [List.take_succ_cons, List.take_zero, List.drop_succ_cons, List.drop_zero]
  repeat still_step
  try refine wpStill_nil ?_
  change wpList _ _ _ _ _ Z1.drew
  go_wp2_with (refine wpList_copyK rfl _ _ 38 38 rfl _ _ rfl rfl (HCP2.out Z1.drew _ _ _ _ _ HG1.out HV1.out (by simp only [Nat.min_def]; split <;> omega)) ?_)
  go_ret
  refine ⟨_, rfl, own_row (by omega) (setRow_heap _ ws C1 C2 31 (0, 0) HG1.out) (insL_len hL hs (by omega)) hGn hG63 HS2.out R' ?_, ?_, .inr (by rw [hWS]; rfl)⟩
  · rw [HFIN.out]
    simp only [insL, byt, List.map_append, List.map_take, List.map_drop]
  · exact HO1.out.drew.setRow (fun h => by omega) C2
set_option maxRecDepth 100000 in
set_option maxHeartbeats 2000000 in
/-- at the end -/
theorem insert_end (base n cap vk : Nat) (A : Option Addr) (L s : List Nat) (w : World) (hn : n ≤ 1000) (hbw : base ≤ w.heap.size) (hO : OwnS w base (.slice A n cap) n L) (hs : s.length = 33) (hv : Blk w vk 31 (vb s)) :
    Calls Tryd.prog 23 #[.slice A n cap, .int .i64 n, .slice (some ⟨vk, 0, none⟩) 1 1] w (InsR w base (n + 1) (.slice A n cap) (insL L n s)) := by
  obtain ⟨i0, hi0, hz0, hz1, hz2⟩ : ∃ i, Tryd.prog.info? 31 = some i ∧ i.zero = some (.agg z33) ∧ i.size = 33 ∧ i.bytes = 33 := ⟨_, rfl, by kernel_rfl, by kernel_rfl, by kernel_rfl⟩
  have hLn : L.length = n * 33 := by have := hO.1; rwa [byt_len] at this
  have hcm : n ≤ cap ∧ cap ≤ maxLen := by
    obtain ⟨A', c', h, h1, h2, _⟩ := own_rd hO
    injection h with _ _ h3
    subst h3
    exact ⟨h1, h2⟩
  have hcap : n ≤ cap := hcm.1
  have hm' : (cap : Int) ≤ 9223372036854775807 := by have := hcm.2; simp only [maxLen] at this; omega
  have hins : insL L n s = L ++ s := by
    unfold insL
    rw [← hLn, List.take_length, List.drop_length, List.append_nil]
  rw [hins]
  have HO := Lib.hid hO
  have HV := Lib.hid (show Rd w w.heap.size (some ⟨vk, 0, none⟩) (byt s) from rd_blkF hv (Blk.lt hv))
  have HI := Lib.hid (And.intro hi0 (And.intro hz0 (And.intro hz1 hz2)))
  clear hO hv hi0 hz0 hz1 hz2 hins
  have hA : A = none ∨ ∃ g, A = some ⟨g, 0, none⟩ := by
    rcases HO.out.2 with ⟨h, _⟩ | ⟨g, _, _, h, _⟩
    · injection h with h; exact .inl h
    · injection h with h; exact .inr ⟨g, h⟩
  have hA0 : A = none → n = 0 ∧ cap = 0 := by
    intro hA
    rcases HO.out.2 with ⟨h, _⟩ | ⟨g, _, _, h, _⟩
    · injection h with _ h1 h2; exact ⟨h1, h2⟩
    · injection h with h; rw [hA] at h; cases h
  have hend : ∀ v' w', Apped w base 31 33 (.slice A n cap) w' v' (n + 1) (byt L ++ byt s) → InsR w base (n + 1) (.slice A n cap) (L ++ s) (.returned v') w' := fun v' w' h => by
    refine ⟨v', rfl, ?_, h.only (fun g hg => hg), h.lies⟩
    have := h.own
    rw [byt_app] at this
    exact this
  have HE := Lib.hid hend
  clear hend
  rcases hA with rfl | ⟨g, rfl⟩
  · obtain ⟨rfl, rfl⟩ := hA0 rfl
    clear hA0
    go_enter Tryd.func23, Tryd.ntmps23
    go_wp2_with (at_builtin; refine wpList_app _ rfl (.tmp 23) (.tmp 24) _ rfl base 31 i0 (.agg z33) 33 33 Tryd.underlying38 HI.out.1 HI.out.2.1 HI.out.2.2.1 HI.out.2.2.2 rfl (by decide) _ _ _ rfl HO.out _ _ 1 1 (byt s) rfl (by rw [byt_len, hs]) HV.out (byt_one _) (by omega) (by omega) hbw ?_; intro v' w' hap; have HAP := Lib.hid hap; clear hap)
    go_ret
    exact HE.out _ _ HAP.out
  · clear hA0
    by_cases hc : cap = n
    · subst hc
      go_enter Tryd.func23, Tryd.ntmps23
      go_wp2_with (at_builtin; refine wpList_app _ rfl (.tmp 23) (.tmp 24) _ rfl base 31 i0 (.agg z33) 33 33 Tryd.underlying38 HI.out.1 HI.out.2.1 HI.out.2.2.1 HI.out.2.2.2 rfl (by decide) _ _ _ rfl HO.out _ _ 1 1 (byt s) rfl (by rw [byt_len, hs]) HV.out (byt_one _) (by omega) (by omega) hbw ?_; intro v' w' hap; have HAP := Lib.hid hap; clear hap)
      go_ret
      exact HE.out _ _ HAP.out
    · go_enter Tryd.func23, Tryd.ntmps23
      go_wp2_with (at_builtin; refine wpList_app _ rfl (.tmp 23) (.tmp 24) _ rfl base 31 i0 (.agg z33) 33 33 Tryd.underlying38 HI.out.1 HI.out.2.1 HI.out.2.2.1 HI.out.2.2.2 rfl (by decide) _ _ _ rfl HO.out _ _ 1 1 (byt s) rfl (by rw [byt_len, hs]) HV.out (byt_one _) (by omega) (by omega) hbw ?_; intro v' w' hap; have HAP := Lib.hid hap; clear hap)
      go_ret
      exact HE.out _ _ HAP.out
theorem insert_c (base n i cap vk : Nat) (A : Option Addr) (L s : List Nat) (w : World) (hi : i ≤ n) (hn : n ≤ 1000) (hbw : base ≤ w.heap.size) (hO : OwnS w base (.slice A n cap) n L) (hs : s.length = 33) (hv : Blk w vk 31 (vb s)) (hne : ∀ g, (Value.slice A n cap).ownBlock = some g → vk ≠ g) :
    Calls Tryd.prog 23 #[.slice A n cap, .int .i64 i, .slice (some ⟨vk, 0, none⟩) 1 1] w (InsR w base (n + 1) (.slice A n cap) (insL L i s)) := by
  rcases Nat.lt_or_ge i n with h | h
  · have hL : L.length = n * 33 := by have := hO.1; rwa [byt_len] at this
    rcases hO.2 with ⟨_, h0⟩ | ⟨g, cap', cur, hv', hb, hg, hnc, hm, hcs, hct⟩
    · omega
    · injection hv' with hA _ hc
      subst hA; subst hc
      rcases Nat.lt_or_ge n cap with h1 | h1
      · exact insert_in base n i cap g vk L s w h h1 hm hL hs hb cur hg hcs hct hv (hne g rfl)
      · exact insert_grow base n i cap g vk L s w h hn hnc (by omega) hL hs hbw cur hg hcs hct hv
  · obtain rfl : i = n := by omega
    exact insert_end base i cap vk A L s w hn hbw hO hs hv
end Go.Proofs.YtdbfikcpaionbaaDoor
/- Contracts: the comparison of places, slices.BinarySearchFunc at shares. -/
namespace Go.Proofs.YtdbfikcpaionbaaDoor
open Go.RowKit
set_option linter.unusedVariables false
set_option linter.unusedSimpArgs false
theorem wpList_load_atG {P : Program} {ops : Array Oper} {rest : List Oper} {op : Oper} {a : Act} {w : World} {Q : Exit → Act → World → Prop} (ty : TypeId) (x : Operand) (ho : op.op = .load ty x) (hw : Region.wanted op (yielded ops a.tmps) = true)
    (b : Addr) (hx : a.eval x = .pointer (some b)) (l : List Nat) (d : TypeDesc) (hc : AtA w b (byt l))
    (hu : P.underlying ty = some d) (hd : d.isRow = true) (hi : (P.info? ty).map (·.size) = some (byt l).length)
    (h : wpList P ops Q rest (a.put op.dst (.agg (vb l))) w) : wpList P ops Q (op :: rest) a w :=
  wpList_step fun K hK => by
    rw [if_pos hw]
    unfold Oper.wp execOp
    simp only [ho, hx, Instr.loadAt, Instr.sureAddr, Sem.run_bind, Sem.run_pure, Result.andThen_ok, run_loadVar_at w b ty (byt l) d hc hu hd hi]
    exact hK _ _ h
def cmpN (a b : Nat) : Int := if a < b then -1 else if b < a then 1 else 0
set_option maxRecDepth 100000 in
theorem cmpb_c (a b : Nat) (w : World) : Calls Tryd.prog 22 #[.int .u8 a, .int .u8 b] w fun e w' => e = .returned (.int .i64 (cmpN a b)) ∧ w = w' := by
  have hnan : ∀ (x : Nat) (W : World), Calls Tryd.prog 31 #[.int .u8 x] W fun e w' => e = .returned (.bool false) ∧ W = w' := fun x W => by
    go_enter Tryd.func31, Tryd.ntmps31
    go_wp2_with fail
    go_ret
    first | exact ⟨rfl, rfl⟩ | simp
  have HN := Lib.hid hnan
  clear hnan
  unfold cmpN
  rcases Nat.lt_trichotomy a b with h | h | h
  · have t1 : (a : Int) < (b : Int) := by omega
    rw [if_pos h]
    go_enter Tryd.func22, Tryd.ntmps22
    go_wp2_with (go_at_call 31; (refine (HN.out _ _).mono ?_); rintro e w' ⟨rfl, rfl⟩)
    go_ret
    exact ⟨rfl, rfl⟩
  · subst h
    rw [if_neg (Nat.lt_irrefl _), if_neg (Nat.lt_irrefl _)]
    have t1 : ¬ (a : Int) < (a : Int) := by omega
    go_enter Tryd.func22, Tryd.ntmps22
    go_wp2_with (go_at_call 31; (refine (HN.out _ _).mono ?_); rintro e w' ⟨rfl, rfl⟩)
    go_ret
    exact ⟨rfl, rfl⟩
  · have t1 : ¬ (a : Int) < (b : Int) := by omega
    have t2 : (b : Int) < (a : Int) := by omega
    rw [if_neg (by omega), if_pos h]
    go_enter Tryd.func22, Tryd.ntmps22
    go_wp2_with (go_at_call 31; (refine (HN.out _ _).mono ?_); rintro e w' ⟨rfl, rfl⟩)
    go_ret
    exact ⟨rfl, rfl⟩
set_option maxRecDepth 100000 in
theorem offer1_y (s : List Nat) (x y : Nat) (w : World) (hs : s.length = 33) (hy : s.getD 0 0 = y) : Calls Tryd.prog 21 #[.agg (vb s), .int .u8 x] w fun e w' => e = .returned (.int .i64 (cmpN y x)) ∧ Below w.heap.size w w' := by
  have HZB := Lib.hid (Blk.new w 31 (vb s))
  have HZO := Lib.hid ((Below.refl w.heap.size w).alloc (Nat.le_refl _) (Obj.cells (vb s) 31))
  go_enter Tryd.func21, Tryd.ntmps21
  go_upto_region 1 with (refine Go.Great.wpList_boxTo rfl 31 (.tmp 0) rfl (some 2) rfl w.heap.size rfl (vb s) rfl ?_)
  generalize w.alloc (Obj.cells (vb s) 31) = Z at *
  have c0 : Z.cell? ⟨w.heap.size, 0, none⟩ = some (.int .u8 (y : Nat)) := by rw [← hy]; exact (HZB.out.cell 0).trans (vb_atF s 0 (by omega))
  clear hy
  go_wp2_with (go_at_call 22; (refine (cmpb_c _ _ _).mono ?_); rintro e w' ⟨rfl, rfl⟩)
  go_ret
  exact ⟨rfl, HZO.out⟩
theorem offer1_c (s : List Nat) (x : Nat) (w : World) (hs : s.length = 33) : Calls Tryd.prog 21 #[.agg (vb s), .int .u8 x] w fun e w' => e = .returned (.int .i64 (cmpN (s.getD 0 0) x)) ∧ Below w.heap.size w w' := offer1_y s x _ w hs rfl
/-- k places stand ahead of x -/
def SpA (L : List Nat) (n x k : Nat) : Prop := k ≤ n ∧ (∀ t, t < k → shX L t < x) ∧ ∀ t, k ≤ t → t < n → x ≤ shX L t
theorem SpA.iff {L : List Nat} {n x k h : Nat} (H : SpA L n x k) (hh : h < n) : shX L h < x ↔ h < k := by
  constructor
  · intro h1
    rcases Nat.lt_or_ge h k with h2 | h2
    · exact h2
    · have := H.2.2 h h2 hh; omega
  · exact H.2.1 h
theorem cmpN_lt {a b : Nat} : cmpN a b < 0 ↔ a < b := by unfold cmpN; split <;> (try split) <;> omega
theorem cmpN_eq {a b : Nat} : cmpN a b = 0 ↔ a = b := by unfold cmpN; split <;> (try split) <;> omega
theorem shR_x (L : List Nat) (i : Nat) : (shR L i).getD 0 0 = shX L i := by rw [shR_at L i 0 (by omega)]; rfl
set_option maxRecDepth 100000 in
set_option maxHeartbeats 2000000 in
theorem bsearch_c (n cap x k : Nat) (ad : Addr) (L : List Nat) (w : World) (hn : n ≤ 1000) (hcap : n ≤ cap) (hcap2 : cap ≤ 9223372036854775807) (hL : L.length = n * 33) (hb : ad.block < w.heap.size) (ha : AtA w ad (byt L)) (hk : SpA L n x k) :
    Calls Tryd.prog 20 #[.slice (some ad) n cap, .int .u8 x, .func (.func 21) #[] #[]] w fun e w' => e = .returned (.tuple #[.int .i64 k, .bool (decide (k < n) && decide (shX L k = x))]) ∧ Below w.heap.size w w' := by
  have HA := Lib.hid ha
  have HK := Lib.hid hk
  have HKN := hk.1
  have HC := Lib.hid (fun i (hi : i < n) W => offer1_c (shR L i) x W (shR_len hL hi))
  simp only [shR_x] at HC
  have HBY := Lib.hid (fun i (hi : i < n) => share_bytes (shR L i) (shR_len hL hi))
  clear ha hk
  go_enter Tryd.func20, Tryd.ntmps20
  go_wp2_with fail
  go_loopw [9, 10] (fun a b wr => ∃ lo hi : Nat, a = .int .i64 lo ∧ b = .int .i64 hi ∧ lo ≤ k ∧ k ≤ hi ∧ hi ≤ n ∧ Below w.heap.size w wr) (fun a b _ => (intOf b).toNat - (intOf a).toNat)
  case atStart => exact ⟨0, n, rfl, rfl, Nat.zero_le _, HKN, Nat.le_refl _, Below.refl _ _⟩
  case round =>
    rename World => wr
    obtain ⟨lo, hi, rfl, rfl, hlk, hkh, hhn, hbel⟩ := hrel
    have HB := Lib.hid hbel
    clear hbel
    by_cases hlt : lo < hi
    · have q1 : (lo : Int) < (hi : Int) := by omega
      obtain ⟨h, hh⟩ : ∃ h, h = (lo + hi) / 2 := ⟨_, rfl⟩
      have he : ((lo : Int) + (hi : Int)) / 2 = (h : Int) := by omega
      have hh1 : lo ≤ h := by omega
      have hh2 : h < hi := by omega
      have hhn2 : h < n := by omega
      clear hh
      have HRow := Lib.hid ((HA.out.below HB.out hb).share h)
      have HIF := HK.out.iff hhn2
      have HC1 := Lib.hid (HC.out h hhn2)
      generalize hc : cmpN (shX L h) x = c at *
      have hcl : c < 0 ↔ h < k := by rw [← hc, cmpN_lt]; exact HIF
      clear hc HIF
      by_cases hx : h < k
      · have t1 : c < 0 := hcl.2 hx
        clear hcl
        go_wp2_with (first
          | (refine wpList_load_at rfl 31 (.tmp 27) rfl (ad.add (h * 33)) rfl (shR L h) _ HRow.out Tryd.underlying31 rfl (HBY.out h hhn2) ?_)
          | (go_at_call 21; go_loud ((refine (HC1.out _).mono ?_); rintro e w1 ⟨rfl, hb1⟩; have HB1 := Lib.hid (HB.out.trans (hb1.mono HB.out.size)); clear hb1)))
        go_roundw
        case rel => exact ⟨h + 1, hi, by go_num, rfl, by omega, by omega, by omega, HB1.out⟩
        case measure => simp [intOf]; omega
      · have t1 : ¬ c < 0 := fun h0 => hx (hcl.1 h0)
        clear hcl
        go_wp2_with (first
          | (refine wpList_load_at rfl 31 (.tmp 27) rfl (ad.add (h * 33)) rfl (shR L h) _ HRow.out Tryd.underlying31 rfl (HBY.out h hhn2) ?_)
          | (go_at_call 21; go_loud ((refine (HC1.out _).mono ?_); rintro e w1 ⟨rfl, hb1⟩; have HB1 := Lib.hid (HB.out.trans (hb1.mono HB.out.size)); clear hb1)))
        go_roundw
        case rel => exact ⟨lo, h, rfl, rfl, by omega, by omega, by omega, HB1.out⟩
        case measure => simp [intOf]; omega
    · obtain rfl : lo = k := by omega
      obtain rfl : hi = lo := by omega
      have q1 : ¬ (hi : Int) < (hi : Int) := by omega
      by_cases hkn : hi < n
      · have q2 : (hi : Int) < (n : Int) := by omega
        have HRow := Lib.hid ((HA.out.below HB.out hb).share hi)
        have HC1 := Lib.hid (HC.out hi hkn)
        have hce : (cmpN (shX L hi) x == 0) = decide (shX L hi = x) := by
          by_cases h0 : shX L hi = x
          · rw [decide_eq_true h0, beq_iff_eq]; exact cmpN_eq.2 h0
          · rw [decide_eq_false h0, beq_eq_false_iff_ne]; exact fun h => h0 (cmpN_eq.1 h)
        obtain ⟨c, hc⟩ : ∃ c, c = cmpN (shX L hi) x := ⟨_, rfl⟩
        rw [← hc] at HC1 hce
        have HCE := Lib.hid hce
        clear hc hce
        go_wp2_with (first
          | (refine wpList_load_atG 31 (.tmp 43) rfl rfl (ad.add (hi * 33)) rfl (shR L hi) _ HRow.out Tryd.underlying31 rfl (HBY.out hi hkn) ?_)
          | (go_at_call 21; go_loud ((refine (HC1.out _).mono ?_); rintro e w1 ⟨rfl, hb1⟩; have HB1 := Lib.hid (HB.out.trans (hb1.mono HB.out.size)); clear hb1)))
        go_ret2
        exact ⟨by simp [hkn, ← HCE.out], HB1.out⟩
      · have q2 : ¬ (hi : Int) < (n : Int) := by omega
        go_wp2_with fail
        go_ret2
        exact ⟨by simp [hkn], HB.out⟩
end Go.Proofs.YtdbfikcpaionbaaDoor
/- Contracts of the small functions on bytes that everything calls: Same. -/
namespace Go.Proofs.YtdbfikcpaionbaaDoor
set_option maxRecDepth 100000
open Go.RowKit
theorem byteInfo : (Tryd.prog.info? 5).map (fun i => (i.zero, i.size, i.bytes)) = some (some (.int .u8 0), 1, 1) := by kernel_rfl
def Quietly (v : Value) (w : World) (e : Ending) (w' : World) : Prop := e = .returned v ∧ ∃ n, w' = w.drewN n
theorem quietly_below {w w' : World} {v : Value} {e : Ending} (h : Quietly v w e w') : e = .returned v ∧ Below w.heap.size w w' := by
  obtain ⟨h1, n, rfl⟩ := h
  exact ⟨h1, belowDrewN n (Below.refl _ _)⟩
theorem take_succ_eq {l m : List Nat} {k : Nat} (h1 : k < l.length) (h2 : k < m.length) : l.take (k + 1) = m.take (k + 1) ↔ l.take k = m.take k ∧ l.getD k 0 = m.getD k 0 := by
  rw [List.take_succ_eq_append_getElem h1, List.take_succ_eq_append_getElem h2, List.getD_eq_getElem?_getD, List.getD_eq_getElem?_getD, List.getElem?_eq_getElem h1, List.getElem?_eq_getElem h2]
  constructor
  · intro h
    have := List.append_inj h (by simp; omega)
    exact ⟨this.1, by simpa using this.2⟩
  · rintro ⟨h, h'⟩
    simp at h'
    rw [h, h']
set_option maxRecDepth 100000 in
set_option maxHeartbeats 400000 in
theorem same_c (B C : Nat) (A D : Option Addr) (ca cb : Nat) (l m : List Nat) (w : World) (hl : ∀ c ∈ l, c < 256) (hm : ∀ c ∈ m, c < 256) (hr : Rd w B A (byt l)) (hs : Rd w C D (byt m)) (h1 : l.length ≤ 1000000000) (_h2 : m.length ≤ 1000000000) :
    Calls Tryd.prog 27 #[.slice A l.length ca, .slice D m.length cb] w (Quietly (.bool (l == m)) w) := by
  have HL := Lib.hid hl
  have HM := Lib.hid hm
  have HR := Lib.hid hr
  have HS := Lib.hid hs
  clear hl hm hr hs
  by_cases hlen : l.length = m.length
  · have HN := Lib.hid hlen
    rw [← hlen]
    have h3 : l.length ≤ m.length := by omega
    clear hlen _h2
    go_enter Tryd.func27, Tryd.ntmps27
    go_wp2
    go_loopw [5] (fun i wr => ∃ k q : Nat, k ≤ l.length ∧ i = .int .i64 k ∧ l.take k = m.take k ∧ wr = w.drewN q) (fun i _ => l.length - (intOf i).toNat)
    case atStart => exact ⟨0, 0, Nat.zero_le _, rfl, by simp, rfl⟩
    case round =>
      obtain ⟨k, q, hk, rfl, ht, rfl⟩ := hrel
      have HT := Lib.hid ht
      clear ht
      by_cases hlt : k < l.length
      · obtain ⟨ad, rfl, hab, hca⟩ := HR.out.byte hlt
        obtain ⟨ad2, rfl, hab2, hcb⟩ := HS.out.byte (show k < m.length by omega)
        have HST := Lib.hid (take_succ_eq hlt (show k < m.length by omega))
        have hx := getD_lt HL.out k
        have hy := getD_lt HM.out k
        generalize l.getD k 0 = x at *
        generalize m.getD k 0 = y at *
        have hi1 : (k : Int) < (l.length : Int) := by omega
        by_cases heq : x = y
        · subst heq
          go_wp2
          go_quiet (fail)
          go_wp2
          go_roundw
          case rel => exact ⟨k + 1, _, by omega, by go_num, HST.out.2 (by first | exact ⟨HT.out, rfl⟩ | exact ⟨HT.out, trivial⟩), rfl⟩
          case measure => simp [intOf]; omega
        · have t1 : (((x : Nat) : Int) != (y : Int)) = true := by rw [bne_iff_ne]; omega
          have HE := Lib.hid heq
          clear heq
          go_wp2
          go_quiet (fail)
          go_wp2
          go_ret
          have hne : l ≠ m := fun h => by
            subst h
            have := HST.out.1 rfl
            exact HE.out this.2
          have e : (l == m) = false := by simpa using hne
          rw [e]
          exact ⟨rfl, _, World.drewN_drewN ..⟩
      · obtain rfl : k = l.length := by omega
        go_wp2
        go_ret
        have e : l = m := by
          have := HT.out
          rw [List.take_length, HN.out, List.take_length] at this
          exact this
        have e2 : (l == m) = true := by simpa using e
        rw [e2]
        exact ⟨rfl, _, rfl⟩
  · have hne : l ≠ m := fun h => hlen (by rw [h])
    have e : (l == m) = false := by simpa using hne
    rw [e]
    have t1 : (((l.length : Nat) : Int) != (m.length : Int)) = true := by rw [bne_iff_ne]; omega
    clear hlen hne e
    go_enter Tryd.func27, Tryd.ntmps27
    go_wp2
    go_ret
    exact ⟨rfl, 0, rfl⟩
theorem vb_set (l : List Nat) (i n : Nat) : (vb l).setIfInBounds i (.int .u8 (n : Int)) = vb (l.set i n) := by
  unfold vb byt
  rw [List.setIfInBounds_toArray]
  congr 1
  rw [List.map_set]
theorem made_bytes (n : Nat) : madeCells #[.int .u8 0] n = vb (List.replicate n 0) := by
  apply Array.toList_inj.1
  rw [toList_madeCells_one]
  simp [vb, byt]
theorem run_make_bytes (n : Nat) (hn : n ≤ 1000000000) (w : World) :
    (Instr.makeSlice 24 (.int .i64 (n : Int)) (.int .i64 (n : Int))).run Tryd.prog w = .ok (.slice (some ⟨w.heap.size, 0, none⟩) n n) (w.alloc (.cells (vb (List.replicate n 0)) 5)) := by
  obtain ⟨i, hi, hz, h1, h2⟩ := info_parts byteInfo
  have hr := run_make (P := Tryd.prog) w 24 5 i (.int .u8 0) Tryd.underlying24 hi hz .i64 .i64 (n : Int) (n : Int) (by omega) (by omega) (by rw [h2]; omega) (by omega)
  rw [h1] at hr
  simp only [Int.toNat_natCast] at hr
  rw [← made_bytes]
  simpa [Value.cells] using hr
theorem hide_ {p : Prop} (h : p) : Hid p := h
theorem unhide_ {p : Prop} (h : Hid p) : p := h
/-- lent bytes, with eight more behind them -/
def lent (l : List Nat) : List Nat := l ++ List.replicate 8 165
def lentTo (l : List Nat) (k : Nat) : List Nat := (lent l).take k ++ List.replicate (l.length + 8 - k) 0
theorem lent_len (l : List Nat) : (lent l).length = l.length + 8 := by simp [lent]
theorem lentTo_set (l : List Nat) (k : Nat) (h : k < l.length + 8) : (lentTo l k).set k ((lent l).getD k 0) = lentTo l (k + 1) := by
  have hk : k < (lent l).length := by rw [lent_len]; exact h
  unfold lentTo
  rw [List.take_succ_eq_append_getElem hk, List.getD_eq_getElem?_getD, List.getElem?_eq_getElem hk, show l.length + 8 - k = (l.length + 8 - (k + 1)) + 1 by omega, List.replicate_succ]
  rw [List.set_append, if_neg (by rw [List.length_take]; omega)]
  rw [List.length_take, Nat.min_eq_left (by omega), Nat.sub_self, List.set_cons_zero, List.append_assoc, List.singleton_append, Option.getD_some]
theorem lentTo_all (l : List Nat) : lentTo l (l.length + 8) = lent l := by
  unfold lentTo
  rw [List.take_of_length_le (by rw [lent_len]; exact Nat.le_refl _)]; simp
theorem lent_at {l : List Nat} {k : Nat} (h : k < l.length) : (lent l).getD k 0 = l.getD k 0 := by
  simp [lent, List.getD_eq_getElem?_getD, List.getElem?_append, h]
theorem lent_far {l : List Nat} {k : Nat} (h : l.length ≤ k) (h2 : k < l.length + 8) : (lent l).getD k 0 = 165 := by
  rw [List.getD_eq_getElem?_getD, lent, List.getElem?_append_right h, List.getElem?_replicate, if_pos (by omega)]
  rfl
theorem lent_lt {l : List Nat} (h : ∀ c ∈ l, c < 256) : ∀ c ∈ lent l, c < 256 := fun c hc => by
  rcases List.mem_append.1 hc with hc | hc
  · exact h c hc
  · rw [List.eq_of_mem_replicate hc]; omega
/-- the block that lent bytes lie in -/
def LentAt (w : World) (g : Nat) (l : List Nat) : Prop := Blk w g 5 (vb (lent l))
theorem rd_blk {w : World} {g : Nat} {T : TypeId} {cs : Array Value} (h : Blk w g T cs) (xs : List Value) (n : Nat) (hx : xs = cs.toList.take n) : Rd w (g + 1) (some ⟨g, 0, none⟩) xs := fun _ =>
  ⟨_, rfl, Nat.lt_succ_self _, fun j u hu => by
    have e1 : (Addr.add ⟨g, 0, none⟩ j) = ⟨g, j, none⟩ := by
      unfold Addr.add; split
      · subst_vars; rfl
      · simp
    rw [e1, h.cell]
    rw [hx] at hu
    have hj : j < n := by
      rcases Nat.lt_or_ge j n with h1 | h1
      · exact h1
      · rw [List.getElem?_eq_none (by rw [List.length_take]; omega)] at hu; cases hu
    rw [List.getElem?_take_of_lt hj] at hu
    simpa using hu⟩
theorem LentAt.rd {w : World} {g : Nat} {l : List Nat} (h : LentAt w g l) : Rd w (g + 1) (some ⟨g, 0, none⟩) (byt l) :=
  rd_blk h (byt l) l.length (by simp [vb, lent, byt])
end Go.Proofs.YtdbfikcpaionbaaDoor
/- Contracts of the small functions on bytes: Lent, Kept. -/
namespace Go.Proofs.YtdbfikcpaionbaaDoor
open Go.RowKit
end Go.Proofs.YtdbfikcpaionbaaDoor
/- Words in the machine's arithmetic. -/
namespace Go.Proofs.YtdbfikcpaionbaaDoor
set_option linter.unusedVariables false
theorem rot_or {n k : Nat} (hn : n < 4294967296) (hk : 0 < k) (hk2 : k < 32) : (n * 2 ^ (32 - k) % 4294967296) ||| (n / 2 ^ k) = rotr n k := by
  have e : (4294967296 : Nat) = 2 ^ k * 2 ^ (32 - k) := by rw [← Nat.pow_add, show k + (32 - k) = 32 by omega]
  have h1 : n / 2 ^ k < 2 ^ (32 - k) := (Nat.div_lt_iff_lt_mul (Nat.two_pow_pos k)).2 (by rw [Nat.mul_comm]; omega)
  rw [e, Nat.mul_mod_mul_right, Nat.mul_comm (n % 2 ^ k), ← Nat.two_pow_add_eq_or_of_lt h1]
  unfold rotr
  rw [Nat.mul_comm (n % 2 ^ k)]
  omega
theorem wrap32 (z : Int) : IntKind.u32.wrap z = z % 4294967296 := by simp [IntKind.wrap, IntKind.signed, IntKind.bits]
theorem wrap32_add (a b : Nat) : IntKind.u32.wrap ((a : Int) + (b : Int)) = ((ad a b : Nat) : Int) := by
  rw [wrap32]; unfold ad; omega
/-- a number from the left, byte by byte -/
theorem high_succ (n w : Nat) : high n (w + 1) = (n / 256 ^ w % 256) :: high n w := by
  induction w generalizing n with
  | zero => simp [high]
  | succ w ih =>
    rw [high, ih (n / 256), high, Nat.div_div_eq_div_mul, Nat.pow_succ', List.cons_append]
end Go.Proofs.YtdbfikcpaionbaaDoor
/- Contracts: Clone, the forms of numbers. -/
namespace Go.Proofs.YtdbfikcpaionbaaDoor
open Go.RowKit
theorem cell_lt {w : World} {a : Addr} {v : Value} (h : w.cell? a = some v) : a.block < w.heap.size := by
  rcases Nat.lt_or_ge a.block w.heap.size with h1 | h1
  · exact h1
  · simp [World.cell?, Array.getElem?_eq_none h1] at h
theorem Rd.ext {w w' : World} {B : Nat} {A : Option Addr} {xs : List Value} (h : Rd w B A xs) (hb : Below w.heap.size w w') : Rd w' B A xs := fun hn => by
  obtain ⟨ad, e, hab, hc⟩ := h hn
  exact ⟨ad, e, hab, fun j u hu => (hb.cell (cell_lt (hc j u hu))).trans (hc j u hu)⟩
theorem Rd.none_nil {w : World} {B : Nat} {xs : List Value} (h : Rd w B none xs) : xs = [] := by
  by_cases hn : xs = []
  · exact hn
  · obtain ⟨_, e, _⟩ := h hn; cases e
/-- what a call hands back: bytes of its own -/
def Gives (l : List Nat) (w : World) (e : Ending) (w' : World) : Prop := ∃ v, e = .returned v ∧ OwnB w' w.heap.size v l ∧ Below w.heap.size w w'
/-- a number's bytes, the lowest first -/
def form : Nat → Nat → List Nat
  | _, 0 => []
  | n, w + 1 => n % 256 :: form (n / 256) w
theorem form_len (n w : Nat) : (form n w).length = w := by
  induction w generalizing n with
  | zero => rfl
  | succ w ih => simp [form, ih]
theorem form_lt (n w : Nat) : ∀ c ∈ form n w, c < 256 := by
  induction w generalizing n with
  | zero => simp [form]
  | succ w ih =>
    intro c hc
    rcases List.mem_cons.1 hc with rfl | hc
    · exact Nat.mod_lt _ (by decide)
    · exact ih _ c hc
theorem form_succ (n w : Nat) : form n (w + 1) = form n w ++ [n / 256 ^ w % 256] := by
  induction w generalizing n with
  | zero => simp [form]
  | succ w ih =>
    rw [form, ih (n / 256), form, List.cons_append, Nat.div_div_eq_div_mul, Nat.pow_succ']
def number : List Nat → Nat
  | [] => 0
  | c :: l => number l * 256 + c
theorem number_lt : ∀ l : List Nat, (∀ c ∈ l, c < 256) → number l < 256 ^ l.length
  | [], _ => by simp [number]
  | c :: l, h => by
    have h1 := number_lt l (fun c hc => h c (by simp [hc]))
    have h2 := h c (by simp)
    rw [number, List.length_cons, Nat.pow_succ]
    omega
theorem form_number : ∀ l : List Nat, (∀ c ∈ l, c < 256) → form (number l) l.length = l
  | [], _ => rfl
  | c :: l, h => by
    have h2 := h c (by simp)
    rw [List.length_cons, form, number, show (number l * 256 + c) % 256 = c by omega, show (number l * 256 + c) / 256 = number l by omega, form_number l (fun c hc => h c (by simp [hc]))]
theorem number_form (n w : Nat) (h : n < 256 ^ w) : number (form n w) = n := by
  induction w generalizing n with
  | zero => simp at h; subst h; rfl
  | succ w ih =>
    rw [form, number, ih (n / 256) (by rw [Nat.pow_succ] at h; omega)]
    omega
theorem number_drop {l : List Nat} {j : Nat} (hj : j < l.length) : number (l.drop j) = number (l.drop (j + 1)) * 256 + l.getD j 0 := by
  rw [List.drop_eq_getElem_cons hj, List.getD_eq_getElem?_getD, List.getElem?_eq_getElem hj]; rfl
end Go.Proofs.YtdbfikcpaionbaaDoor
/- Contracts: numbers laid and read. -/
namespace Go.Proofs.YtdbfikcpaionbaaDoor
open Go.RowKit
theorem div_pow_succ (n k : Nat) : n / 256 ^ k / 256 = n / 256 ^ (k + 1) := by rw [Nat.div_div_eq_div_mul, ← Nat.pow_succ]
theorem div_pow_lt (n k : Nat) (h : n < 2 ^ 64) : n / 256 ^ k < 2 ^ 64 := Nat.lt_of_le_of_lt (Nat.div_le_self _ _) h
/-- what num.Put lays behind -/
def tailOf (n : Nat) (wd : Int) : List Nat := if 8 < wd then [] else form n wd.toNat
/-- num.Get's error -/
def getErr (len : Nat) (wd : Int) : Int := if wd < 1 ∨ 8 < wd then 1 else if (len : Int) < wd then 2 else 0
def getNum (l : List Nat) (wd : Int) : Nat := if getErr l.length wd = 0 then number (l.take wd.toNat) else 0
theorem or_low (a c : Nat) (ha : a < 72057594037927936) (hc : c < 256) : Go.bits BinOp.or IntKind.u64 ((a : Int) * 256) (c : Int) = ((a * 256 + c : Nat) : Int) := by
  have e : (a : Int) * 256 = ((a * 256 : Nat) : Int) := by omega
  rw [e, u64_or_nat _ _ (by omega) (by omega), show a * 256 = 2 ^ 8 * a by omega, Nat.two_pow_add_eq_or_of_lt (i := 8) hc a]
end Go.Proofs.YtdbfikcpaionbaaDoor
/- Contracts: a word turned. -/
namespace Go.Proofs.YtdbfikcpaionbaaDoor
open Go.RowKit
set_option linter.unusedVariables false
set_option maxRecDepth 100000 in
set_option maxHeartbeats 1000000 in
theorem rot2_c (n : Nat) (w : World) (hn : n < 4294967296) : Calls Tryd.prog 58 #[.int .u32 n, .int .i64 (-2)] w fun e w' => e = .returned (.int .u32 (rotr n 2 : Nat)) ∧ w = w' := by
  have h1 : bits BinOp.and .u64 (IntKind.u64.wrap (-2)) 31 = 30 := by decide
  have h2 : IntKind.u32.wrap ((n : Int) * 1073741824) = ((n * 1073741824 % 4294967296 : Nat) : Int) := by rw [wrap32]; omega
  have h3 : bits BinOp.or .u32 ((n * 1073741824 % 4294967296 : Nat) : Int) ((n : Int) / 4) = ((rotr n 2 : Nat) : Int) := by
    rw [show (n : Int) / 4 = ((n / 4 : Nat) : Int) by omega, u32_or_nat _ _ (Nat.mod_lt _ (by decide)) (by omega)]
    rw [show n * 1073741824 % 4294967296 ||| n / 4 = rotr n 2 from rot_or (k := 2) hn (by decide) (by decide)]
  go_enter Tryd.func58, Tryd.ntmps58
  go_wp2
  go_ret
  exact ⟨by first | rfl | simp_all, rfl⟩
set_option maxRecDepth 100000 in
set_option maxHeartbeats 1000000 in
theorem rot3_c (n : Nat) (w : World) (hn : n < 4294967296) : Calls Tryd.prog 58 #[.int .u32 n, .int .i64 (-3)] w fun e w' => e = .returned (.int .u32 (rotr n 3 : Nat)) ∧ w = w' := by
  have h1 : bits BinOp.and .u64 (IntKind.u64.wrap (-3)) 31 = 29 := by decide
  have h2 : IntKind.u32.wrap ((n : Int) * 536870912) = ((n * 536870912 % 4294967296 : Nat) : Int) := by rw [wrap32]; omega
  have h3 : bits BinOp.or .u32 ((n * 536870912 % 4294967296 : Nat) : Int) ((n : Int) / 8) = ((rotr n 3 : Nat) : Int) := by
    rw [show (n : Int) / 8 = ((n / 8 : Nat) : Int) by omega, u32_or_nat _ _ (Nat.mod_lt _ (by decide)) (by omega)]
    rw [show n * 536870912 % 4294967296 ||| n / 8 = rotr n 3 from rot_or (k := 3) hn (by decide) (by decide)]
  go_enter Tryd.func58, Tryd.ntmps58
  go_wp2
  go_ret
  exact ⟨by first | rfl | simp_all, rfl⟩
set_option maxRecDepth 100000 in
set_option maxHeartbeats 1000000 in
theorem rot6_c (n : Nat) (w : World) (hn : n < 4294967296) : Calls Tryd.prog 58 #[.int .u32 n, .int .i64 (-6)] w fun e w' => e = .returned (.int .u32 (rotr n 6 : Nat)) ∧ w = w' := by
  have h1 : bits BinOp.and .u64 (IntKind.u64.wrap (-6)) 31 = 26 := by decide
  have h2 : IntKind.u32.wrap ((n : Int) * 67108864) = ((n * 67108864 % 4294967296 : Nat) : Int) := by rw [wrap32]; omega
  have h3 : bits BinOp.or .u32 ((n * 67108864 % 4294967296 : Nat) : Int) ((n : Int) / 64) = ((rotr n 6 : Nat) : Int) := by
    rw [show (n : Int) / 64 = ((n / 64 : Nat) : Int) by omega, u32_or_nat _ _ (Nat.mod_lt _ (by decide)) (by omega)]
    rw [show n * 67108864 % 4294967296 ||| n / 64 = rotr n 6 from rot_or (k := 6) hn (by decide) (by decide)]
  go_enter Tryd.func58, Tryd.ntmps58
  go_wp2
  go_ret
  exact ⟨by first | rfl | simp_all, rfl⟩
set_option maxRecDepth 100000 in
set_option maxHeartbeats 1000000 in
theorem rot7_c (n : Nat) (w : World) (hn : n < 4294967296) : Calls Tryd.prog 58 #[.int .u32 n, .int .i64 (-7)] w fun e w' => e = .returned (.int .u32 (rotr n 7 : Nat)) ∧ w = w' := by
  have h1 : bits BinOp.and .u64 (IntKind.u64.wrap (-7)) 31 = 25 := by decide
  have h2 : IntKind.u32.wrap ((n : Int) * 33554432) = ((n * 33554432 % 4294967296 : Nat) : Int) := by rw [wrap32]; omega
  have h3 : bits BinOp.or .u32 ((n * 33554432 % 4294967296 : Nat) : Int) ((n : Int) / 128) = ((rotr n 7 : Nat) : Int) := by
    rw [show (n : Int) / 128 = ((n / 128 : Nat) : Int) by omega, u32_or_nat _ _ (Nat.mod_lt _ (by decide)) (by omega)]
    rw [show n * 33554432 % 4294967296 ||| n / 128 = rotr n 7 from rot_or (k := 7) hn (by decide) (by decide)]
  go_enter Tryd.func58, Tryd.ntmps58
  go_wp2
  go_ret
  exact ⟨by first | rfl | simp_all, rfl⟩
set_option maxRecDepth 100000 in
set_option maxHeartbeats 1000000 in
theorem rot10_c (n : Nat) (w : World) (hn : n < 4294967296) : Calls Tryd.prog 58 #[.int .u32 n, .int .i64 (-10)] w fun e w' => e = .returned (.int .u32 (rotr n 10 : Nat)) ∧ w = w' := by
  have h1 : bits BinOp.and .u64 (IntKind.u64.wrap (-10)) 31 = 22 := by decide
  have h2 : IntKind.u32.wrap ((n : Int) * 4194304) = ((n * 4194304 % 4294967296 : Nat) : Int) := by rw [wrap32]; omega
  have h3 : bits BinOp.or .u32 ((n * 4194304 % 4294967296 : Nat) : Int) ((n : Int) / 1024) = ((rotr n 10 : Nat) : Int) := by
    rw [show (n : Int) / 1024 = ((n / 1024 : Nat) : Int) by omega, u32_or_nat _ _ (Nat.mod_lt _ (by decide)) (by omega)]
    rw [show n * 4194304 % 4294967296 ||| n / 1024 = rotr n 10 from rot_or (k := 10) hn (by decide) (by decide)]
  go_enter Tryd.func58, Tryd.ntmps58
  go_wp2
  go_ret
  exact ⟨by first | rfl | simp_all, rfl⟩
set_option maxRecDepth 100000 in
set_option maxHeartbeats 1000000 in
theorem rot11_c (n : Nat) (w : World) (hn : n < 4294967296) : Calls Tryd.prog 58 #[.int .u32 n, .int .i64 (-11)] w fun e w' => e = .returned (.int .u32 (rotr n 11 : Nat)) ∧ w = w' := by
  have h1 : bits BinOp.and .u64 (IntKind.u64.wrap (-11)) 31 = 21 := by decide
  have h2 : IntKind.u32.wrap ((n : Int) * 2097152) = ((n * 2097152 % 4294967296 : Nat) : Int) := by rw [wrap32]; omega
  have h3 : bits BinOp.or .u32 ((n * 2097152 % 4294967296 : Nat) : Int) ((n : Int) / 2048) = ((rotr n 11 : Nat) : Int) := by
    rw [show (n : Int) / 2048 = ((n / 2048 : Nat) : Int) by omega, u32_or_nat _ _ (Nat.mod_lt _ (by decide)) (by omega)]
    rw [show n * 2097152 % 4294967296 ||| n / 2048 = rotr n 11 from rot_or (k := 11) hn (by decide) (by decide)]
  go_enter Tryd.func58, Tryd.ntmps58
  go_wp2
  go_ret
  exact ⟨by first | rfl | simp_all, rfl⟩
set_option maxRecDepth 100000 in
set_option maxHeartbeats 1000000 in
theorem rot13_c (n : Nat) (w : World) (hn : n < 4294967296) : Calls Tryd.prog 58 #[.int .u32 n, .int .i64 (-13)] w fun e w' => e = .returned (.int .u32 (rotr n 13 : Nat)) ∧ w = w' := by
  have h1 : bits BinOp.and .u64 (IntKind.u64.wrap (-13)) 31 = 19 := by decide
  have h2 : IntKind.u32.wrap ((n : Int) * 524288) = ((n * 524288 % 4294967296 : Nat) : Int) := by rw [wrap32]; omega
  have h3 : bits BinOp.or .u32 ((n * 524288 % 4294967296 : Nat) : Int) ((n : Int) / 8192) = ((rotr n 13 : Nat) : Int) := by
    rw [show (n : Int) / 8192 = ((n / 8192 : Nat) : Int) by omega, u32_or_nat _ _ (Nat.mod_lt _ (by decide)) (by omega)]
    rw [show n * 524288 % 4294967296 ||| n / 8192 = rotr n 13 from rot_or (k := 13) hn (by decide) (by decide)]
  go_enter Tryd.func58, Tryd.ntmps58
  go_wp2
  go_ret
  exact ⟨by first | rfl | simp_all, rfl⟩
set_option maxRecDepth 100000 in
set_option maxHeartbeats 1000000 in
theorem rot17_c (n : Nat) (w : World) (hn : n < 4294967296) : Calls Tryd.prog 58 #[.int .u32 n, .int .i64 (-17)] w fun e w' => e = .returned (.int .u32 (rotr n 17 : Nat)) ∧ w = w' := by
  have h1 : bits BinOp.and .u64 (IntKind.u64.wrap (-17)) 31 = 15 := by decide
  have h2 : IntKind.u32.wrap ((n : Int) * 32768) = ((n * 32768 % 4294967296 : Nat) : Int) := by rw [wrap32]; omega
  have h3 : bits BinOp.or .u32 ((n * 32768 % 4294967296 : Nat) : Int) ((n : Int) / 131072) = ((rotr n 17 : Nat) : Int) := by
    rw [show (n : Int) / 131072 = ((n / 131072 : Nat) : Int) by omega, u32_or_nat _ _ (Nat.mod_lt _ (by decide)) (by omega)]
    rw [show n * 32768 % 4294967296 ||| n / 131072 = rotr n 17 from rot_or (k := 17) hn (by decide) (by decide)]
  go_enter Tryd.func58, Tryd.ntmps58
  go_wp2
  go_ret
  exact ⟨by first | rfl | simp_all, rfl⟩
set_option maxRecDepth 100000 in
set_option maxHeartbeats 1000000 in
theorem rot18_c (n : Nat) (w : World) (hn : n < 4294967296) : Calls Tryd.prog 58 #[.int .u32 n, .int .i64 (-18)] w fun e w' => e = .returned (.int .u32 (rotr n 18 : Nat)) ∧ w = w' := by
  have h1 : bits BinOp.and .u64 (IntKind.u64.wrap (-18)) 31 = 14 := by decide
  have h2 : IntKind.u32.wrap ((n : Int) * 16384) = ((n * 16384 % 4294967296 : Nat) : Int) := by rw [wrap32]; omega
  have h3 : bits BinOp.or .u32 ((n * 16384 % 4294967296 : Nat) : Int) ((n : Int) / 262144) = ((rotr n 18 : Nat) : Int) := by
    rw [show (n : Int) / 262144 = ((n / 262144 : Nat) : Int) by omega, u32_or_nat _ _ (Nat.mod_lt _ (by decide)) (by omega)]
    rw [show n * 16384 % 4294967296 ||| n / 262144 = rotr n 18 from rot_or (k := 18) hn (by decide) (by decide)]
  go_enter Tryd.func58, Tryd.ntmps58
  go_wp2
  go_ret
  exact ⟨by first | rfl | simp_all, rfl⟩
set_option maxRecDepth 100000 in
set_option maxHeartbeats 1000000 in
theorem rot19_c (n : Nat) (w : World) (hn : n < 4294967296) : Calls Tryd.prog 58 #[.int .u32 n, .int .i64 (-19)] w fun e w' => e = .returned (.int .u32 (rotr n 19 : Nat)) ∧ w = w' := by
  have h1 : bits BinOp.and .u64 (IntKind.u64.wrap (-19)) 31 = 13 := by decide
  have h2 : IntKind.u32.wrap ((n : Int) * 8192) = ((n * 8192 % 4294967296 : Nat) : Int) := by rw [wrap32]; omega
  have h3 : bits BinOp.or .u32 ((n * 8192 % 4294967296 : Nat) : Int) ((n : Int) / 524288) = ((rotr n 19 : Nat) : Int) := by
    rw [show (n : Int) / 524288 = ((n / 524288 : Nat) : Int) by omega, u32_or_nat _ _ (Nat.mod_lt _ (by decide)) (by omega)]
    rw [show n * 8192 % 4294967296 ||| n / 524288 = rotr n 19 from rot_or (k := 19) hn (by decide) (by decide)]
  go_enter Tryd.func58, Tryd.ntmps58
  go_wp2
  go_ret
  exact ⟨by first | rfl | simp_all, rfl⟩
set_option maxRecDepth 100000 in
set_option maxHeartbeats 1000000 in
theorem rot22_c (n : Nat) (w : World) (hn : n < 4294967296) : Calls Tryd.prog 58 #[.int .u32 n, .int .i64 (-22)] w fun e w' => e = .returned (.int .u32 (rotr n 22 : Nat)) ∧ w = w' := by
  have h1 : bits BinOp.and .u64 (IntKind.u64.wrap (-22)) 31 = 10 := by decide
  have h2 : IntKind.u32.wrap ((n : Int) * 1024) = ((n * 1024 % 4294967296 : Nat) : Int) := by rw [wrap32]; omega
  have h3 : bits BinOp.or .u32 ((n * 1024 % 4294967296 : Nat) : Int) ((n : Int) / 4194304) = ((rotr n 22 : Nat) : Int) := by
    rw [show (n : Int) / 4194304 = ((n / 4194304 : Nat) : Int) by omega, u32_or_nat _ _ (Nat.mod_lt _ (by decide)) (by omega)]
    rw [show n * 1024 % 4294967296 ||| n / 4194304 = rotr n 22 from rot_or (k := 22) hn (by decide) (by decide)]
  go_enter Tryd.func58, Tryd.ntmps58
  go_wp2
  go_ret
  exact ⟨by first | rfl | simp_all, rfl⟩
set_option maxRecDepth 100000 in
set_option maxHeartbeats 1000000 in
theorem rot25_c (n : Nat) (w : World) (hn : n < 4294967296) : Calls Tryd.prog 58 #[.int .u32 n, .int .i64 (-25)] w fun e w' => e = .returned (.int .u32 (rotr n 25 : Nat)) ∧ w = w' := by
  have h1 : bits BinOp.and .u64 (IntKind.u64.wrap (-25)) 31 = 7 := by decide
  have h2 : IntKind.u32.wrap ((n : Int) * 128) = ((n * 128 % 4294967296 : Nat) : Int) := by rw [wrap32]; omega
  have h3 : bits BinOp.or .u32 ((n * 128 % 4294967296 : Nat) : Int) ((n : Int) / 33554432) = ((rotr n 25 : Nat) : Int) := by
    rw [show (n : Int) / 33554432 = ((n / 33554432 : Nat) : Int) by omega, u32_or_nat _ _ (Nat.mod_lt _ (by decide)) (by omega)]
    rw [show n * 128 % 4294967296 ||| n / 33554432 = rotr n 25 from rot_or (k := 25) hn (by decide) (by decide)]
  go_enter Tryd.func58, Tryd.ntmps58
  go_wp2
  go_ret
  exact ⟨by first | rfl | simp_all, rfl⟩
set_option maxRecDepth 100000 in
set_option maxHeartbeats 1000000 in
theorem turn0_c (n : Nat) (w : World) (hn : n < 4294967296) : Calls Tryd.prog 56 #[.int .u32 n, .int .i64 7, .int .i64 18, .int .i64 3, .bool true] w fun e w' => e = .returned (.int .u32 (s0 n : Nat)) ∧ w = w' := by
  have h2 : bits BinOp.xor .u32 (rotr n 7 : Nat) (rotr n 18 : Nat) = ((rotr n 7 ^^^ rotr n 18 : Nat) : Int) := u32_xor_nat _ _ (rotr_lt hn (by decide)) (rotr_lt hn (by decide))
  have h3 : bits BinOp.xor .u32 ((rotr n 7 ^^^ rotr n 18 : Nat) : Int) ((n : Int) / 8) = ((s0 n : Nat) : Int) := by
    rw [show (n : Int) / 8 = ((n / 8 : Nat) : Int) by omega, u32_xor_nat _ _ (xor_w (rotr_lt hn (by decide)) (rotr_lt hn (by decide))) (by omega)]
    rfl
  generalize rotr n 7 ^^^ rotr n 18 = q at *
  have H3 := Lib.hid h3
  go_enter Tryd.func56, Tryd.ntmps56
  go_wp2_with (first
      | (go_at_call 58; ((with_reducible refine (rot3_c n _ hn).mono ?_); rintro e w' ⟨rfl, rfl⟩))
      | (go_at_call 58; ((with_reducible refine (rot7_c n _ hn).mono ?_); rintro e w' ⟨rfl, rfl⟩))
      | (go_at_call 58; ((with_reducible refine (rot18_c n _ hn).mono ?_); rintro e w' ⟨rfl, rfl⟩)))
  go_ret
  exact ⟨by first | rfl | assumption | simp_all, rfl⟩
set_option maxRecDepth 100000 in
set_option maxHeartbeats 1000000 in
theorem turn1_c (n : Nat) (w : World) (hn : n < 4294967296) : Calls Tryd.prog 56 #[.int .u32 n, .int .i64 17, .int .i64 19, .int .i64 10, .bool true] w fun e w' => e = .returned (.int .u32 (s1 n : Nat)) ∧ w = w' := by
  have h2 : bits BinOp.xor .u32 (rotr n 17 : Nat) (rotr n 19 : Nat) = ((rotr n 17 ^^^ rotr n 19 : Nat) : Int) := u32_xor_nat _ _ (rotr_lt hn (by decide)) (rotr_lt hn (by decide))
  have h3 : bits BinOp.xor .u32 ((rotr n 17 ^^^ rotr n 19 : Nat) : Int) ((n : Int) / 1024) = ((s1 n : Nat) : Int) := by
    rw [show (n : Int) / 1024 = ((n / 1024 : Nat) : Int) by omega, u32_xor_nat _ _ (xor_w (rotr_lt hn (by decide)) (rotr_lt hn (by decide))) (by omega)]
    rfl
  generalize rotr n 17 ^^^ rotr n 19 = q at *
  have H3 := Lib.hid h3
  go_enter Tryd.func56, Tryd.ntmps56
  go_wp2_with (first
      | (go_at_call 58; ((with_reducible refine (rot10_c n _ hn).mono ?_); rintro e w' ⟨rfl, rfl⟩))
      | (go_at_call 58; ((with_reducible refine (rot17_c n _ hn).mono ?_); rintro e w' ⟨rfl, rfl⟩))
      | (go_at_call 58; ((with_reducible refine (rot19_c n _ hn).mono ?_); rintro e w' ⟨rfl, rfl⟩)))
  go_ret
  exact ⟨by first | rfl | assumption | simp_all, rfl⟩
set_option maxRecDepth 100000 in
set_option maxHeartbeats 1000000 in
theorem turnE_c (n : Nat) (w : World) (hn : n < 4294967296) : Calls Tryd.prog 56 #[.int .u32 n, .int .i64 6, .int .i64 11, .int .i64 25, .bool false] w fun e w' => e = .returned (.int .u32 (b1 n : Nat)) ∧ w = w' := by
  have h2 : bits BinOp.xor .u32 (rotr n 6 : Nat) (rotr n 11 : Nat) = ((rotr n 6 ^^^ rotr n 11 : Nat) : Int) := u32_xor_nat _ _ (rotr_lt hn (by decide)) (rotr_lt hn (by decide))
  have h3 : bits BinOp.xor .u32 ((rotr n 6 ^^^ rotr n 11 : Nat) : Int) (rotr n 25 : Nat) = ((b1 n : Nat) : Int) := by
    rw [u32_xor_nat _ _ (xor_w (rotr_lt hn (by decide)) (rotr_lt hn (by decide))) (rotr_lt hn (by decide))]
    rfl
  generalize rotr n 6 ^^^ rotr n 11 = q at *
  have H3 := Lib.hid h3
  go_enter Tryd.func56, Tryd.ntmps56
  go_wp2_with (first
      | (go_at_call 58; ((with_reducible refine (rot25_c n _ hn).mono ?_); rintro e w' ⟨rfl, rfl⟩))
      | (go_at_call 58; ((with_reducible refine (rot6_c n _ hn).mono ?_); rintro e w' ⟨rfl, rfl⟩))
      | (go_at_call 58; ((with_reducible refine (rot11_c n _ hn).mono ?_); rintro e w' ⟨rfl, rfl⟩)))
  go_ret
  exact ⟨by first | rfl | assumption | simp_all, rfl⟩
set_option maxRecDepth 100000 in
set_option maxHeartbeats 1000000 in
theorem turnA_c (n : Nat) (w : World) (hn : n < 4294967296) : Calls Tryd.prog 56 #[.int .u32 n, .int .i64 2, .int .i64 13, .int .i64 22, .bool false] w fun e w' => e = .returned (.int .u32 (b0 n : Nat)) ∧ w = w' := by
  have h2 : bits BinOp.xor .u32 (rotr n 2 : Nat) (rotr n 13 : Nat) = ((rotr n 2 ^^^ rotr n 13 : Nat) : Int) := u32_xor_nat _ _ (rotr_lt hn (by decide)) (rotr_lt hn (by decide))
  have h3 : bits BinOp.xor .u32 ((rotr n 2 ^^^ rotr n 13 : Nat) : Int) (rotr n 22 : Nat) = ((b0 n : Nat) : Int) := by
    rw [u32_xor_nat _ _ (xor_w (rotr_lt hn (by decide)) (rotr_lt hn (by decide))) (rotr_lt hn (by decide))]
    rfl
  generalize rotr n 2 ^^^ rotr n 13 = q at *
  have H3 := Lib.hid h3
  go_enter Tryd.func56, Tryd.ntmps56
  go_wp2_with (first
      | (go_at_call 58; ((with_reducible refine (rot22_c n _ hn).mono ?_); rintro e w' ⟨rfl, rfl⟩))
      | (go_at_call 58; ((with_reducible refine (rot2_c n _ hn).mono ?_); rintro e w' ⟨rfl, rfl⟩))
      | (go_at_call 58; ((with_reducible refine (rot13_c n _ hn).mono ?_); rintro e w' ⟨rfl, rfl⟩)))
  go_ret
  exact ⟨by first | rfl | assumption | simp_all, rfl⟩
end Go.Proofs.YtdbfikcpaionbaaDoor
/- Contract: schedule. -/
namespace Go.Proofs.YtdbfikcpaionbaaDoor
open Go.RowKit
set_option linter.unusedVariables false
/-- words as cells -/
def w32 (l : List Nat) : List Value := l.map fun (n : Nat) => Value.int .u32 (n : Int)
def vw (l : List Nat) : Array Value := (w32 l).toArray
theorem w32_len (l : List Nat) : (w32 l).length = l.length := by simp [w32]
theorem vw_size (l : List Nat) : (vw l).size = l.length := by simp [vw, w32]
theorem vw_at (l : List Nat) (i : Nat) (h : i < l.length) : (vw l)[i]? = some (.int .u32 (l.getD i 0 : Nat)) := by
  simp [vw, w32, h, List.getD_eq_getElem?_getD]
theorem vw_set (l : List Nat) (i n : Nat) : (vw l).setIfInBounds i (.int .u32 (n : Nat)) = vw (l.set i n) := by
  unfold vw w32
  rw [List.setIfInBounds_toArray, List.map_set]
theorem vw_one (l : List Nat) : (vw l).all (·.oneCell') = true := by
  rw [Array.all_eq_true_iff_forall_mem]
  intro v hv
  simp only [vw, w32, List.mem_toArray, List.mem_map] at hv
  obtain ⟨n, _, rfl⟩ := hv
  rfl
/-- the schedule as far as it is laid -/
def schZ (l : List Nat) (k : Nat) : List Nat := sch l k ++ List.replicate (64 - k) 0
theorem schZ_len (l : List Nat) (k : Nat) (h : k ≤ 64) : (schZ l k).length = 64 := by simp [schZ, sch_len]; omega
theorem schZ_zero (l : List Nat) : schZ l 0 = List.replicate 64 0 := by simp [schZ, sch]
theorem schZ_end (l : List Nat) : schZ l 64 = sch l 64 := by simp [schZ]
theorem schZ_at (l : List Nat) (k i : Nat) (h : i < k) : (schZ l k).getD i 0 = (sch l k).getD i 0 := by
  unfold schZ
  rw [List.getD_eq_getElem?_getD, List.getElem?_append_left (by rw [sch_len]; exact h), List.getD_eq_getElem?_getD]
theorem schZ_set (l : List Nat) (k : Nat) (h : k < 64) : (schZ l k).set k (nxt l (sch l k) k) = schZ l (k + 1) := by
  unfold schZ
  rw [List.set_append_right _ _ (by rw [sch_len]; exact Nat.le_refl _), sch_len, Nat.sub_self, show 64 - k = (64 - (k + 1)) + 1 by omega, List.replicate_succ, List.set_cons_zero, sch]
  simp
theorem sch_at_lt {l : List Nat} (hl : ∀ c ∈ l, c < 256) (k i : Nat) : (sch l k).getD i 0 < 4294967296 := by
  rw [List.getD_eq_getElem?_getD]
  rcases Nat.lt_or_ge i (sch l k).length with h | h
  · rw [List.getElem?_eq_getElem h]; exact sch_lt hl k _ (List.getElem_mem _)
  · rw [List.getElem?_eq_none h]; decide
def z64w : Array Value := vw (List.replicate 64 0)
theorem zero_64 (w : World) : (zeroValue 95).run Tryd.prog w = .ok (.agg z64w) w := by kernel_rfl
theorem or_put {i a b n m : Nat} (h : b < 2 ^ i) (hn : n = 2 ^ i * a) (hm : n + b = m) : n ||| b = m := by
  rw [← hm, hn]
  exact (Nat.two_pow_add_eq_or_of_lt h a).symm
theorem be4_or (a b c d : Nat) (ha : a < 256) (hb : b < 256) (hc : c < 256) (hd : d < 256) : a * 16777216 ||| b * 65536 = a * 16777216 + b * 65536 ∧ (a * 16777216 + b * 65536) ||| c * 256 = a * 16777216 + b * 65536 + c * 256 ∧ (a * 16777216 + b * 65536 + c * 256) ||| d = ((a * 256 + b) * 256 + c) * 256 + d :=
  ⟨or_put (i := 24) (a := a) (by omega) (by omega) rfl, or_put (i := 16) (a := a * 256 + b) (by omega) (by omega) rfl, or_put (i := 8) (a := (a * 256 + b) * 256 + c) (by omega) (by omega) (by omega)⟩
theorem be_facts (y0 y1 y2 y3 : Nat) (x0 : y0 < 256) (x1 : y1 < 256) (x2 : y2 < 256) (x3 : y3 < 256) :
    ∃ z0 z1 z2 s2 s3 be : Nat, (y0 : Int) * 16777216 = (z0 : Int) ∧ (y1 : Int) * 65536 = (z1 : Int) ∧ (y2 : Int) * 256 = (z2 : Int) ∧ be = ((y0 * 256 + y1) * 256 + y2) * 256 + y3 ∧ IntKind.u32.wrap ((y0 : Int) * 16777216) = (z0 : Int) ∧ IntKind.u32.wrap ((y1 : Int) * 65536) = (z1 : Int) ∧ IntKind.u32.wrap ((y2 : Int) * 256) = (z2 : Int) ∧
      bits BinOp.or .u32 (z0 : Int) (z1 : Int) = (s2 : Int) ∧ bits BinOp.or .u32 (s2 : Int) (z2 : Int) = (s3 : Int) ∧ bits BinOp.or .u32 (s3 : Int) (y3 : Int) = (be : Int) := by
  obtain ⟨ob1, ob2, ob3⟩ := be4_or y0 y1 y2 y3 x0 x1 x2 x3
  refine ⟨y0 * 16777216, y1 * 65536, y2 * 256, y0 * 16777216 + y1 * 65536, y0 * 16777216 + y1 * 65536 + y2 * 256, _, by omega, by omega, by omega, rfl, by rw [wrap32]; omega, by rw [wrap32]; omega, by rw [wrap32]; omega, ?_, ?_, ?_⟩
  · rw [u32_or_nat _ _ (by omega) (by omega), ob1]
  · rw [u32_or_nat _ _ (by omega) (by omega), ob2]
  · rw [u32_or_nat _ _ (by omega) (by omega), ob3]
set_option maxRecDepth 100000 in
set_option maxHeartbeats 2000000 in
theorem schedule_c (B : Nat) (ad0 : Addr) (ca : Nat) (l : List Nat) (w : World) (hl : ∀ c ∈ l, c < 256) (hr : Rd w B (some ad0) (byt l)) (hB : B ≤ w.heap.size) (h64 : l.length = 64) (hca : 64 ≤ ca) :
    Calls Tryd.prog 55 #[.slice (some ad0) 64 ca] w fun e w' => e = .returned (.agg (vw (sch l 64))) ∧ Below w.heap.size w w' := by
  have zf := zero_64
  have zs1 : z64w.size = 64 := by rfl
  have zs2 : ¬ z64w = #[] := by intro h; have := congrArg Array.size h; rw [zs1] at this; cases this
  have HL := Lib.hid hl
  have HR := Lib.hid hr
  clear hl hr
  go_enter Tryd.func55, Tryd.ntmps55
  go_upto_region 2 with fail
  obtain ⟨Z, hZ⟩ : ∃ Z, Z = (w.alloc (Obj.cells z64w 95)).alloc (Obj.cells z64w 95) := ⟨_, rfl⟩
  have hb2 : Blk Z w.heap.size 95 z64w := by rw [hZ]; exact (Blk.new w _ _).alloc _
  have hb3 : Blk Z (w.heap.size + 1) 95 (vw (schZ l 0)) := by
    rw [hZ, schZ_zero]
    have h := Blk.new (w.alloc (Obj.cells z64w 95)) 95 z64w
    rw [show (w.alloc (Obj.cells z64w 95)).heap.size = w.heap.size + 1 by simp] at h
    exact h
  have hbz : Below w.heap.size w Z := by rw [hZ]; exact ((Below.refl _ _).alloc (Nat.le_refl _) _).alloc (Nat.le_trans (Nat.le_refl _) (by simp)) _
  rw [← hZ]
  clear hZ
  have H2 := Lib.hid hb2
  have H3 := Lib.hid hb3
  have HZ := Lib.hid hbz
  clear hb2 hb3 hbz zf zs1 zs2
  go_wp2_with fail
  go_loopw [6] (fun i wr => ∃ k : Nat, k ≤ 64 ∧ i = .int .i64 k ∧ Blk wr (w.heap.size + 1) 95 (vw (schZ l k)) ∧ Blk wr w.heap.size 95 z64w ∧ Below w.heap.size w wr) (fun i _ => 64 - (intOf i).toNat)
  case atStart => exact ⟨0, by omega, rfl, H3.out, H2.out, HZ.out⟩
  case round =>
    rename World => wr
    obtain ⟨k, hk, rfl, hb3, hb2, hbw⟩ := hrel
    have HK := Lib.hid hb3
    have HK2 := Lib.hid hb2
    have HKW := Lib.hid hbw
    clear hb3 hb2 hbw H2 H3
    by_cases hlt : k < 64
    · by_cases h16 : k < 16
      · have hnx : nxt l (sch l k) k = ((l.getD (4 * k) 0 * 256 + l.getD (4 * k + 1) 0) * 256 + l.getD (4 * k + 2) 0) * 256 + l.getD (4 * k + 3) 0 := by unfold nxt; rw [if_pos h16]; rfl
        have hset := schZ_set l k hlt
        rw [hnx] at hset
        have HSET := Lib.hid hset
        have hcell : ∀ j, j < 4 → wr.cell? ((ad0.add (4 * k)).add j) = some (.int .u8 (l.getD (4 * k + j) 0 : Nat)) := fun j hj => by
          obtain ⟨a1, e1, _, hc⟩ := (HR.out.below (HKW.out.mono hB)).byte (k := 4 * k + j) (by omega)
          injection e1 with e1
          subst e1
          rw [Addr.add_add]
          exact hc
        have q0 := hcell 0 (by decide)
        have q1 := hcell 1 (by decide)
        have q2 := hcell 2 (by decide)
        have q3 := hcell 3 (by decide)
        have x0 := getD_lt HL.out (4 * k)
        have x1 := getD_lt HL.out (4 * k + 1)
        have x2 := getD_lt HL.out (4 * k + 2)
        have x3 := getD_lt HL.out (4 * k + 3)
        simp only [Nat.add_zero] at q0
        rw [show ∀ a : Addr, a.add 0 = a from fun a => by simp [Addr.add]] at q0
        rw [show ∀ a : Addr, a.add 1 = ⟨a.block, a.off + 1, none⟩ from fun a => by simp [Addr.add]] at q1
        rw [show ∀ a : Addr, a.add 2 = ⟨a.block, a.off + 2, none⟩ from fun a => by simp [Addr.add]] at q2
        rw [show ∀ a : Addr, a.add 3 = ⟨a.block, a.off + 3, none⟩ from fun a => by simp [Addr.add]] at q3
        have d4 : wr.cell? ⟨w.heap.size + 1, k, none⟩ = some (.int .u32 ((schZ l k).getD k 0 : Nat)) := (HK.out.cell k).trans (vw_at _ k (by rw [schZ_len l k hk]; exact hlt))
        have f4 : wr.frozen? ⟨w.heap.size + 1, k, none⟩ = false := HK.out.free k
        clear hnx hset hcell
        generalize l.getD (4 * k) 0 = y0 at *
        generalize l.getD (4 * k + 1) 0 = y1 at *
        generalize l.getD (4 * k + 2) 0 = y2 at *
        generalize l.getD (4 * k + 3) 0 = y3 at *
        obtain ⟨z0, z1, z2, s2, s3, be, e0, e1, e2, hbe, r0, r1, r2, o1, o2, o3⟩ := be_facts y0 y1 y2 y3 x0 x1 x2 x3
        rw [← hbe] at HSET
        clear hbe
        have HB4 := Lib.hid (show 4 * k + 4 ≤ 64 by omega)
        go_wp2_with fail
        generalize ad0.add (4 * k) = adk at *
        have m0 : 0 < 64 - 4 * k := by omega
        have m1 : 1 < 64 - 4 * k := by omega
        have m2 : 2 < 64 - 4 * k := by omega
        have m3 : 3 < 64 - 4 * k := by omega
        generalize 64 - 4 * k = mm at *
        have n1 : (1 : Int) < (mm : Int) := by omega
        have n2 : (2 : Int) < (mm : Int) := by omega
        have n3 : (3 : Int) < (mm : Int) := by omega
        have c0 : IntKind.u32.wrap (y0 : Int) = (y0 : Int) := by rw [wrap32]; omega
        have c1 : IntKind.u32.wrap (y1 : Int) = (y1 : Int) := by rw [wrap32]; omega
        have c2 : IntKind.u32.wrap (y2 : Int) = (y2 : Int) := by rw [wrap32]; omega
        have c3 : IntKind.u32.wrap (y3 : Int) = (y3 : Int) := by rw [wrap32]; omega
        refine wp_region_still_tail 24 (by kernel_rfl) (by kernel_rfl) ?_
        simp only [List.take_succ_cons, List.take_zero, List.drop_succ_cons, List.drop_zero]
        repeat still_step
        try refine wpStill_nil ?_
        change wpList _ _ _ _ _ wr.drew
        go_wp2_with fail
        go_roundw
        case rel => exact ⟨k + 1, by omega, by go_num, by rw [← HSET.out, ← vw_set]; exact (show Blk wr.drew _ _ _ from HK.out).set_ k _, (show Blk wr.drew _ _ _ from HK2.out).far (p := ⟨w.heap.size + 1, k, none⟩) (by simp) _, (HKW.out.setCell (p := ⟨w.heap.size + 1, k, none⟩) (Nat.le_succ _) _).drew⟩
        case measure => simp [intOf]; omega
      · have hnx : nxt l (sch l k) k = ad (ad (ad ((sch l k).getD (k - 16) 0) (s0 ((sch l k).getD (k - 15) 0))) ((sch l k).getD (k - 7) 0)) (s1 ((sch l k).getD (k - 2) 0)) := by unfold nxt; rw [if_neg h16]
        have hset := schZ_set l k hlt
        rw [hnx] at hset
        have HSET := Lib.hid hset
        have hq : ∀ j, 0 < j → j ≤ 16 → wr.cell? ⟨w.heap.size + 1, k - j, none⟩ = some (.int .u32 ((sch l k).getD (k - j) 0 : Nat)) := fun j h0 hj => by
          rw [← schZ_at l k (k - j) (by omega)]
          exact (HK.out.cell (k - j)).trans (vw_at _ _ (by rw [schZ_len l k hk]; omega))
        have q0 := hq 16 (by decide) (by decide)
        have q1 := hq 15 (by decide) (by decide)
        have q2 := hq 7 (by decide) (by decide)
        have q3 := hq 2 (by decide) (by decide)
        have d4 : wr.cell? ⟨w.heap.size + 1, k, none⟩ = some (.int .u32 ((schZ l k).getD k 0 : Nat)) := (HK.out.cell k).trans (vw_at _ k (by rw [schZ_len l k hk]; exact hlt))
        have f4 : wr.frozen? ⟨w.heap.size + 1, k, none⟩ = false := HK.out.free k
        have x0 := sch_at_lt HL.out k (k - 16)
        have x1 := sch_at_lt HL.out k (k - 15)
        have x2 := sch_at_lt HL.out k (k - 7)
        have x3 := sch_at_lt HL.out k (k - 2)
        clear hnx hset hq
        generalize (sch l k).getD (k - 16) 0 = y0 at *
        generalize (sch l k).getD (k - 15) 0 = y1 at *
        generalize (sch l k).getD (k - 7) 0 = y2 at *
        generalize (sch l k).getD (k - 2) 0 = y3 at *
        have T0 := Lib.hid (fun W => turn0_c y1 W x1)
        have T1 := Lib.hid (fun W => turn1_c y3 W x3)
        have a1 := wrap32_add y0 (s0 y1)
        have a2 := wrap32_add (ad y0 (s0 y1)) y2
        have a3 := wrap32_add (ad (ad y0 (s0 y1)) y2) (s1 y3)
        generalize ad (ad (ad y0 (s0 y1)) y2) (s1 y3) = r3 at *
        generalize ad (ad y0 (s0 y1)) y2 = r2 at *
        generalize ad y0 (s0 y1) = r1 at *
        generalize s0 y1 = t0 at *
        generalize s1 y3 = t1 at *
        have i1 : IntKind.i64.wrap ((k : Int) - 16) = ((k - 16 : Nat) : Int) := by simp [IntKind.wrap, IntKind.signed, IntKind.bits]; omega
        have i2 : IntKind.i64.wrap ((k : Int) - 15) = ((k - 15 : Nat) : Int) := by simp [IntKind.wrap, IntKind.signed, IntKind.bits]; omega
        have i3 : IntKind.i64.wrap ((k : Int) - 7) = ((k - 7 : Nat) : Int) := by simp [IntKind.wrap, IntKind.signed, IntKind.bits]; omega
        have i4 : IntKind.i64.wrap ((k : Int) - 2) = ((k - 2 : Nat) : Int) := by simp [IntKind.wrap, IntKind.signed, IntKind.bits]; omega
        have g1 : k - 16 < 64 := by omega
        have g2 : k - 15 < 64 := by omega
        have g3 : k - 7 < 64 := by omega
        have g4 : k - 2 < 64 := by omega
        generalize k - 16 = j0 at *
        generalize k - 15 = j1 at *
        generalize k - 7 = j2 at *
        generalize k - 2 = j3 at *
        have gg1 : (j0 : Int) < 64 := by omega
        have gg2 : (j1 : Int) < 64 := by omega
        have gg3 : (j2 : Int) < 64 := by omega
        have gg4 : (j3 : Int) < 64 := by omega
        go_wp2_with fail
        refine wp_region_still_tail 23 (by kernel_rfl) (by kernel_rfl) ?_
        simp only [List.take_succ_cons, List.take_zero, List.drop_succ_cons, List.drop_zero]
        iterate 9 still_step
        still_call ((T0.out _).mono fun _ _ h => ⟨h.1, h.2.symm⟩)
        iterate 10 still_step
        still_call ((T1.out _).mono fun _ _ h => ⟨h.1, h.2.symm⟩)
        repeat still_step
        try refine wpStill_nil ?_
        change wpList _ _ _ _ _ wr.drew
        go_wp2_with fail
        go_roundw
        case rel => exact ⟨k + 1, by omega, by go_num, by rw [← HSET.out, ← vw_set]; exact (show Blk wr.drew _ _ _ from HK.out).set_ k _, (show Blk wr.drew _ _ _ from HK2.out).far (p := ⟨w.heap.size + 1, k, none⟩) (by simp) _, (HKW.out.setCell (p := ⟨w.heap.size + 1, k, none⟩) (Nat.le_succ _) _).drew⟩
        case measure => simp [intOf]; omega
    · obtain rfl : k = 64 := by omega
      have hb3 := HK.out
      rw [schZ_end] at hb3
      have HE := Lib.hid hb3
      have hlen : (w32 (sch l 64)).length = 64 := by rw [w32_len, sch_len]
      have HI := Lib.hid (show (Tryd.prog.info? 95).map (·.size) = some (vw (sch l 64)).size by rw [vw_size, sch_len]; kernel_rfl)
      have HV := Lib.hid (show z64w.size = (vw (sch l 64)).size by rw [vw_size, sch_len]; rfl)
      clear hb3 HK
      go_wp2_with (first
        | (refine wpList_load_row rfl 95 (.tmp 3) rfl (w.heap.size + 1) rfl 95 (vw (sch l 64)) (0, 0) _ HE.out Tryd.underlying95 rfl HI.out ?_)
        | (refine wpList_store_rowTo rfl 95 (.tmp 2) (.tmp 63) rfl rfl w.heap.size (vw (sch l 64)) rfl rfl 95 z64w HK2.out HI.out HV.out (vw_one _) ?_))
      refine bodyPost_ret (results_cell_row rfl _ _ w.heap.size 95 (vw (sch l 64)) (0, 0) _ rfl (setRow_heap wr w.heap.size z64w _ 95 (0, 0) HK2.out) Tryd.underlying95 rfl HI.out) rfl ?_
      exact ⟨rfl, HKW.out.trans ⟨rfl, rfl, rfl, by simp [World.setRow], fun i hi => setRow_other wr w.heap.size i _ (by omega)⟩⟩
end Go.Proofs.YtdbfikcpaionbaaDoor
/- Contract: a block. -/
namespace Go.Proofs.YtdbfikcpaionbaaDoor
open Go.RowKit
set_option linter.unusedVariables false
def z8w : Array Value := vw (List.replicate 8 0)
theorem zero_8 (w : World) : (zeroValue 80).run Tryd.prog w = .ok (.agg z8w) w := by kernel_rfl
theorem len8 {l : List Nat} (h : l.length = 8) : ∃ a b c d e f g i, l = [a, b, c, d, e, f, g, i] := by
  match l, h with
  | [a, b, c, d, e, f, g, i], _ => exact ⟨a, b, c, d, e, f, g, i, rfl⟩
theorem rnd_lt (k w : Nat) {v : List Nat} (h : ∀ c ∈ v, c < 4294967296) : ∀ c ∈ rnd k w v, c < 4294967296 := by
  have hg : ∀ i, v.getD i 0 < 4294967296 := fun i => by
    rw [List.getD_eq_getElem?_getD]
    rcases Nat.lt_or_ge i v.length with h1 | h1
    · rw [List.getElem?_eq_getElem h1]; exact h _ (List.getElem_mem _)
    · rw [List.getElem?_eq_none h1]; decide
  intro c hc
  simp only [rnd, List.mem_cons, List.not_mem_nil, or_false] at hc
  rcases hc with rfl | rfl | rfl | rfl | rfl | rfl | rfl | rfl
  · exact ad_lt _ _
  · exact hg _
  · exact hg _
  · exact hg _
  · exact ad_lt _ _
  · exact hg _
  · exact hg _
  · exact hg _
theorem rds_lt (l : List Nat) {h : List Nat} (hh : ∀ c ∈ h, c < 4294967296) (n : Nat) : ∀ c ∈ rds l h n, c < 4294967296 := by
  induction n with
  | zero => exact hh
  | succ n ih => exact rnd_lt _ _ ih
theorem not32 (x : Nat) (h : x < 4294967296) : bits BinOp.xor .u32 (if IntKind.u32.signed = true then -1 else IntKind.u32.max) (x : Int) = ((4294967295 - x : Nat) : Int) := by
  have e : (if IntKind.u32.signed = true then (-1 : Int) else IntKind.u32.max) = ((4294967295 : Nat) : Int) := by decide
  rw [e, u32_xor_nat _ _ (by decide) h]
  have h2 : 4294967295 ^^^ x = 4294967295 - x := by
    apply Nat.eq_of_testBit_eq
    intro i
    have h3 := Nat.testBit_two_pow_sub_succ (n := 32) (x := x) (by omega) i
    have h4 := Nat.testBit_two_pow_sub_one 32 i
    rw [show (2 : Nat) ^ 32 - (x + 1) = 4294967295 - x by omega] at h3
    rw [show (2 : Nat) ^ 32 - 1 = 4294967295 by decide] at h4
    rw [h3, Nat.testBit_xor, h4]
    by_cases hi : i < 32
    · simp [hi]
    · have h5 : x.testBit i = false := Nat.testBit_lt_two_pow (Nat.lt_of_lt_of_le h (show (4294967296 : Nat) ≤ 2 ^ i from Nat.pow_le_pow_right (n := 2) (i := 32) (j := i) (by decide) (by omega)))
      simp [hi, h5]
  rw [h2]
theorem blk3w (w : World) (a b c : Obj) : (((w.alloc a).alloc b).alloc c).heap[w.heap.size + 1 + 1]? = some c := by
  have h := heap_alloc_new ((w.alloc a).alloc b) c
  have e : ((w.alloc a).alloc b).heap.size = w.heap.size + 1 + 1 := by simp
  rw [e] at h
  exact h
/-- the blocks of a step -/
structure Stp (w W : World) (h v : List Nat) : Prop where
  bel : Below w.heap.size w W
  hA : Blk W w.heap.size 80 (vw h)
  oA : Blk W (w.heap.size + 1) 80 z8w
  vA : Blk W (w.heap.size + 1 + 1) 80 (vw v)
theorem Stp.next {w W W' : World} {h v : List Nat} (s : Stp w W h v) (hb : Below W.heap.size W W') : Stp w W' h v :=
  ⟨s.bel.trans (hb.mono s.bel.size), s.hA.below hb s.hA.lt, s.oA.below hb s.oA.lt, s.vA.below hb s.vA.lt⟩
theorem Stp.set {w W : World} {h v : List Nat} (s : Stp w W h v) (i n : Nat) : Stp w (W.setCell ⟨w.heap.size + 1 + 1, i, none⟩ (.int .u32 (n : Nat))) h (v.set i n) :=
  ⟨s.bel.setCell (by simp; omega) _, s.hA.far (p := ⟨w.heap.size + 1 + 1, i, none⟩) (by simp; omega) _, s.oA.far (p := ⟨w.heap.size + 1 + 1, i, none⟩) (by simp) _, by rw [← vw_set]; exact s.vA.set_ i _⟩
theorem Stp.row {w W : World} {h v : List Nat} (s : Stp w W h v) (u : List Nat) : Stp w (W.setRow (w.heap.size + 1 + 1) (vw u)) h u :=
  ⟨s.bel.trans ⟨rfl, rfl, rfl, by simp [World.setRow], fun i hi => setRow_other W _ i _ (by omega)⟩, (setRow_other W _ _ _ (by omega)).trans s.hA, (setRow_other W _ _ _ (by omega)).trans s.oA, setRow_heap W _ _ _ _ (0, 0) s.vA⟩
theorem Stp.seth {w W : World} {h v : List Nat} (s : Stp w W h v) (i n : Nat) : Stp w (W.setCell ⟨w.heap.size, i, none⟩ (.int .u32 (n : Nat))) (h.set i n) v :=
  ⟨s.bel.setCell (Nat.le_refl _) _, by rw [← vw_set]; exact s.hA.set_ i _, s.oA.far (p := ⟨w.heap.size, i, none⟩) (by simp) _, s.vA.far (p := ⟨w.heap.size, i, none⟩) (by simp; omega) _⟩
def hTo (u h : List Nat) (k : Nat) : List Nat := u.take k ++ h.drop k
theorem hTo_set (u h : List Nat) (k : Nat) (h1 : k < u.length) (h2 : u.length = h.length) : (hTo u h k).set k (u.getD k 0) = hTo u h (k + 1) := by
  apply List.ext_getElem?
  intro i
  unfold hTo
  rw [List.getElem?_set]
  simp only [List.length_append, List.length_take, List.length_drop]
  by_cases h : k = i
  · subst h
    rw [if_pos rfl, if_pos (by omega), List.getElem?_append_left (by rw [List.length_take]; omega), List.getElem?_take_of_lt (by omega), List.getD_eq_getElem?_getD, List.getElem?_eq_getElem h1]
    rfl
  · rw [if_neg h]
    by_cases h3 : i < k
    · rw [List.getElem?_append_left (by rw [List.length_take]; omega), List.getElem?_append_left (by rw [List.length_take]; omega), List.getElem?_take_of_lt h3, List.getElem?_take_of_lt (by omega)]
    · rw [List.getElem?_append_right (by rw [List.length_take]; omega), List.getElem?_append_right (by rw [List.length_take]; omega), List.getElem?_drop, List.getElem?_drop, List.length_take, List.length_take]
      congr 1; omega
theorem hTo_at (u h : List Nat) (k : Nat) (h1 : k < u.length) (h2 : u.length = h.length) : (hTo u h k).getD k 0 = h.getD k 0 := by
  unfold hTo
  rw [List.getD_eq_getElem?_getD, List.getElem?_append_right (by rw [List.length_take]; omega), List.getElem?_drop, List.length_take, List.getD_eq_getElem?_getD]
  congr 2; omega
theorem hTo_len (u h : List Nat) (k : Nat) (h1 : k ≤ u.length) (h2 : u.length = h.length) : (hTo u h k).length = h.length := by simp [hTo]; omega
theorem blk_at (l h : List Nat) (i : Nat) (hi : i < 8) : (blk l h).getD i 0 = ad (h.getD i 0) ((rds l h 64).getD i 0) := by simp [blk, List.getD_eq_getElem?_getD, hi]
theorem u32_info : ∃ i, Tryd.prog.info? 78 = some i ∧ i.size = 1 := ⟨_, rfl, by kernel_rfl⟩
theorem run_index_w (l : List Nat) (m : Nat) (hl : l.length = 64) (hm : m < 64) (w : World) : (Instr.index 95 (.agg (vw l)) (.int .i64 (m : Int))).run Tryd.prog w = .ok (.int .u32 (l.getD m 0 : Nat)) w := by
  obtain ⟨i, hi, hs⟩ := u32_info
  have hu := Tryd.underlying95
  have hu8 := Tryd.underlying78
  have hv := vw_at l m (by omega)
  have hagg : (isAgg 78).run Tryd.prog w = .ok false w := by
    unfold isAgg
    rw [Sem.run_bind, run_underlying hu8 w]
    rfl
  simp [Instr.index, asIntOf, run_underlying hu, sizeOf, typeInfo, hi, hs, part, Sem.run_bind, hagg, hv, hm]
set_option maxRecDepth 100000 in
set_option maxHeartbeats 2000000 in
theorem step_c (B : Nat) (ad0 : Addr) (ca : Nat) (l h : List Nat) (w : World) (hl : ∀ c ∈ l, c < 256) (hr : Rd w B (some ad0) (byt l)) (hB : B ≤ w.heap.size) (h64 : l.length = 64) (hca : 64 ≤ ca)
    (hh : h.length = 8) (hhl : ∀ c ∈ h, c < 4294967296) (ht : ∀ i, i < 64 → w.cell? ⟨0, i, none⟩ = some (.int .u32 (kc.getD i 0 : Nat))) (hw : 0 < w.heap.size) :
    Calls Tryd.prog 45 #[.agg (vw h), .slice (some ad0) 64 ca] w fun e w' => e = .returned (.agg (vw (blk l h))) ∧ Below w.heap.size w w' := by
  have zf := zero_8
  have zs1 : z8w.size = 8 := by rfl
  have zs2 : ¬ z8w = #[] := by intro h; have := congrArg Array.size h; rw [zs1] at this; cases this
  have HL := Lib.hid hl
  have HR := Lib.hid hr
  have HT := Lib.hid ht
  have HHL := Lib.hid hhl
  have HIH := Lib.hid (show (Tryd.prog.info? 80).map (·.size) = some (vw h).size by rw [vw_size, hh]; kernel_rfl)
  have HZH := Lib.hid (show z8w.size = (vw h).size by rw [vw_size, hh]; rfl)
  clear hl hr ht hhl
  go_enter Tryd.func45, Tryd.ntmps45
  go_upto_region 2 with (first
    | (refine Go.Great.wpList_boxTo rfl 80 (.tmp 0) rfl (some 2) rfl w.heap.size rfl (vw h) rfl ?_)
    | (refine wpList_load_row rfl 80 (.tmp 2) rfl w.heap.size rfl 80 (vw h) (0, 0) _ (by exact (show Blk _ _ _ _ from ((Blk.new w _ _).alloc _))) Tryd.underlying80 rfl HIH.out ?_)
    | (refine wpList_store_rowTo rfl 80 (.tmp 5) (.tmp 13) rfl rfl (w.heap.size + 1 + 1) (vw h) rfl rfl 80 z8w (by exact blk3w _ _ _ _) HIH.out HZH.out (vw_one _) ?_))
  obtain ⟨Z, hZ⟩ : ∃ Z, Z = (((w.alloc (Obj.cells (vw h) 80)).alloc (Obj.cells z8w 80)).alloc (Obj.cells z8w 80)).setRow (w.heap.size + 1 + 1) (vw h) := ⟨_, rfl⟩
  have hs : Stp w Z h h := by
    rw [hZ]
    refine ⟨?_, ?_, ?_, ?_⟩
    · exact ((((Below.refl _ _).alloc (Nat.le_refl _) _).alloc (by simp) _).alloc (by simp; omega) _).trans ⟨rfl, rfl, rfl, by simp [World.setRow], fun i hi => setRow_other _ _ i _ (by omega)⟩
    · exact (setRow_other _ _ _ _ (by omega)).trans (((Blk.new w _ _).alloc _).alloc _)
    · have h1 := Blk.new (w.alloc (Obj.cells (vw h) 80)) 80 z8w
      rw [show (w.alloc (Obj.cells (vw h) 80)).heap.size = w.heap.size + 1 by simp] at h1
      exact (setRow_other _ _ _ _ (by omega)).trans (h1.alloc _)
    · exact setRow_heap _ _ _ _ _ (0, 0) (blk3w _ _ _ _)
  rw [← hZ]
  clear hZ zf zs1 zs2
  have HS := Lib.hid hs
  clear hs
  have HSC := Lib.hid (fun W (hW : Below w.heap.size w W) => schedule_c B ad0 ca l W HL.out (HR.out.below (hW.mono hB)) (Nat.le_trans hB hW.size) h64 hca)
  go_wp2_with (go_at_call 55; (refine (HSC.out _ HS.out.bel).mono ?_); rintro e w1 ⟨rfl, hb⟩; have HS1 := Lib.hid (HS.out.next hb); clear hb)
  go_loopw [16] (fun i wr => ∃ k : Nat, k ≤ 64 ∧ i = .int .i64 k ∧ Stp w wr h (rds l h k)) (fun i _ => 64 - (intOf i).toNat)
  case atStart => exact ⟨0, by omega, rfl, HS1.out⟩
  case round =>
    rename World => wr
    obtain ⟨k, hk, rfl, hs⟩ := hrel
    have HK := Lib.hid hs
    clear hs
    by_cases hlt : k < 64
    · have hidx := run_index_w (sch l 64) k (sch_len l 64) hlt
      have hwl := sch_at_lt HL.out 64 k
      have tk := HK.out.bel.cell (p := ⟨0, k, none⟩) hw |>.trans (HT.out k hlt)
      have hkl : kc.getD k 0 < 4294967296 := by
        rw [List.getD_eq_getElem?_getD, List.getElem?_eq_getElem (show k < kc.length from hlt)]
        exact (show ∀ c ∈ kc, c < 4294967296 by decide) _ (List.getElem_mem _)
      have hst : rds l h (k + 1) = rnd (kc.getD k 0) ((sch l 64).getD k 0) (rds l h k) := rfl
      have HST := Lib.hid hst
      have hvl := rds_lt l HHL.out k
      obtain ⟨v0, v1, v2, v3, v4, v5, v6, v7, hv⟩ := len8 (rds_len (l := l) hh k)
      rw [hv] at HK HST hvl
      clear hst hv
      generalize (sch l 64).getD k 0 = ww at *
      generalize kc.getD k 0 = kk at *
      have e0 : wr.cell? ⟨w.heap.size + 1 + 1, 0, none⟩ = some (.int .u32 (v0 : Nat)) := HK.out.vA.cell 0
      have e1 : wr.cell? ⟨w.heap.size + 1 + 1, 1, none⟩ = some (.int .u32 (v1 : Nat)) := HK.out.vA.cell 1
      have e2 : wr.cell? ⟨w.heap.size + 1 + 1, 2, none⟩ = some (.int .u32 (v2 : Nat)) := HK.out.vA.cell 2
      have e4 : wr.cell? ⟨w.heap.size + 1 + 1, 4, none⟩ = some (.int .u32 (v4 : Nat)) := HK.out.vA.cell 4
      have e5 : wr.cell? ⟨w.heap.size + 1 + 1, 5, none⟩ = some (.int .u32 (v5 : Nat)) := HK.out.vA.cell 5
      have e6 : wr.cell? ⟨w.heap.size + 1 + 1, 6, none⟩ = some (.int .u32 (v6 : Nat)) := HK.out.vA.cell 6
      have e7 : wr.cell? ⟨w.heap.size + 1 + 1, 7, none⟩ = some (.int .u32 (v7 : Nat)) := HK.out.vA.cell 7
      have l0 := hvl v0 (by simp)
      have l1 := hvl v1 (by simp)
      have l2 := hvl v2 (by simp)
      have l3 := hvl v3 (by simp)
      have l4 := hvl v4 (by simp)
      have l5 := hvl v5 (by simp)
      have l6 := hvl v6 (by simp)
      have l7 := hvl v7 (by simp)
      clear hvl
      have TE := Lib.hid (fun W => turnE_c v4 W l4)
      have TA := Lib.hid (fun W => turnA_c v0 W l0)
      go_wp2_with fail
      go_quiet (fail)
      go_wp2_with fail
      have nx := not32 v4 l4
      have f1 := u32_and_nat v4 v5 l4 l5
      have f2 := u32_and_nat (4294967295 - v4) v6 (by omega) l6
      have f3 : bits BinOp.xor .u32 ((v4 &&& v5 : Nat) : Int) (((4294967295 - v4) &&& v6 : Nat) : Int) = ((chf v4 v5 v6 : Nat) : Int) := u32_xor_nat _ _ (and_w l4) (and_w (by omega))
      have f4 := u32_and_nat v0 v1 l0 l1
      have f5 := u32_and_nat v0 v2 l0 l2
      have f6 := u32_and_nat v1 v2 l1 l2
      have f7 : bits BinOp.xor .u32 ((v0 &&& v1 : Nat) : Int) ((v0 &&& v2 : Nat) : Int) = (((v0 &&& v1) ^^^ (v0 &&& v2) : Nat) : Int) := u32_xor_nat _ _ (and_w l0) (and_w l0)
      have f8 : bits BinOp.xor .u32 (((v0 &&& v1) ^^^ (v0 &&& v2) : Nat) : Int) ((v1 &&& v2 : Nat) : Int) = ((maj v0 v1 v2 : Nat) : Int) := u32_xor_nat _ _ (xor_w (and_w l0) (and_w l0)) (and_w l1)
      have g1 := wrap32_add v7 (b1 v4)
      have g2 := wrap32_add (ad v7 (b1 v4)) (chf v4 v5 v6)
      have g3 := wrap32_add (ad (ad v7 (b1 v4)) (chf v4 v5 v6)) kk
      have g4 := wrap32_add (ad (ad (ad v7 (b1 v4)) (chf v4 v5 v6)) kk) ww
      have g5 := wrap32_add (b0 v0) (maj v0 v1 v2)
      have hrnd : rnd kk ww [v0, v1, v2, v3, v4, v5, v6, v7] = [ad (ad (ad (ad (ad v7 (b1 v4)) (chf v4 v5 v6)) kk) ww) (ad (b0 v0) (maj v0 v1 v2)), v0, v1, v2, ad v3 (ad (ad (ad (ad v7 (b1 v4)) (chf v4 v5 v6)) kk) ww), v4, v5, v6] := rfl
      rw [hrnd] at HST
      clear hrnd
      generalize ad (ad (ad (ad v7 (b1 v4)) (chf v4 v5 v6)) kk) ww = one at *
      generalize ad (b0 v0) (maj v0 v1 v2) = two at *
      generalize ad (ad (ad v7 (b1 v4)) (chf v4 v5 v6)) kk = o3 at *
      generalize ad (ad v7 (b1 v4)) (chf v4 v5 v6) = o2 at *
      generalize ad v7 (b1 v4) = o1 at *
      generalize maj v0 v1 v2 = mj at *
      generalize chf v4 v5 v6 = cf at *
      generalize b1 v4 = bE at *
      generalize b0 v0 = bA at *
      generalize (4294967295 - v4) &&& v6 = q2 at *
      generalize 4294967295 - v4 = q1 at *
      generalize (v0 &&& v1) ^^^ (v0 &&& v2) = q6 at *
      generalize v0 &&& v1 = q3 at *
      generalize v0 &&& v2 = q4 at *
      generalize v1 &&& v2 = q5 at *
      generalize v4 &&& v5 = q0 at *
      refine wp_region_quiet_lit (by kernel_rfl) (by kernel_rfl) ?_
      repeat (go_big_quiet_step ((first
        | (go_at_call 56; exact (TE.out _).mono fun _ _ h => ⟨h.1, _, h.2.symm⟩))))
      refine wpQuiet_nil ?_
      rintro _ ⟨n6, rfl⟩
      go_wp2_with fail
      refine wp_region_quiet_lit (by kernel_rfl) (by kernel_rfl) ?_
      repeat (go_big_quiet_step ((first
        | (go_at_call 56; exact (TA.out _).mono fun _ _ h => ⟨h.1, _, h.2.symm⟩))))
      refine wpQuiet_nil ?_
      rintro _ ⟨n7, rfl⟩
      go_wp2_with fail
      have hs7 : Stp w (((wr.drewN nq).drewN n6).drewN n7) h [v0, v1, v2, v3, v4, v5, v6, v7] := ((HK.out.next (belowDrewN nq (Below.refl _ _))).next (belowDrewN n6 (Below.refl _ _))).next (belowDrewN n7 (Below.refl _ _))
      have HS7 := Lib.hid hs7
      clear hs7
      generalize ((wr.drewN nq).drewN n6).drewN n7 = X at *
      have hcopy : ∃ X2, (Builtin.copy_ #[84, 84] 3 #[.slice (some ⟨w.heap.size + 1 + 1, 1, none⟩) 7 7, .slice (some ⟨w.heap.size + 1 + 1, 0, none⟩) 7 8]).run Tryd.prog X.drew = .ok (.int .i64 7) X2 ∧ Stp w X2 h [v0, v0, v1, v2, v3, v4, v5, v6] := by
        have hs := HS7.out.next (Below.refl _ _).drew
        have h1 := run_copy_row (P := Tryd.prog) X.drew 84 84 3 78 (w.heap.size + 1 + 1) 1 7 7 ⟨w.heap.size + 1 + 1, 0, none⟩ 7 8 (vw [v0, v1, v2, v3, v4, v5, v6, v7]) 80 (w32 [v0, v1, v2, v3, v4, v5, v6]) Tryd.underlying84 (by kernel_rfl) hs.vA rfl (fun j u hu => by
          rw [Addr.add_mid, Nat.zero_add, hs.vA.cell j]
          have hj : j < 7 := by
            rcases Nat.lt_or_ge j 7 with h1 | h1
            · exact h1
            · rw [List.getElem?_eq_none (by rw [w32_len]; exact h1)] at hu; cases hu
          rw [← hu]
          have hj3 : j = 0 ∨ j = 1 ∨ j = 2 ∨ j = 3 ∨ j = 4 ∨ j = 5 ∨ j = 6 := by omega
          rcases hj3 with rfl | rfl | rfl | rfl | rfl | rfl | rfl <;> rfl) (by simp [vw_size, w32_len]) (fun u hu => by
          obtain ⟨n, _, rfl⟩ := List.mem_map.1 hu
          rfl)
        exact ⟨_, h1, hs.row [v0, v0, v1, v2, v3, v4, v5, v6]⟩
      obtain ⟨X2, hcopy, hs2⟩ := hcopy
      have HS8 := Lib.hid hs2
      have d4 : X2.cell? ⟨w.heap.size + 1 + 1, 4, none⟩ = some (.int .u32 (v3 : Nat)) := hs2.vA.cell 4
      have d0 : X2.cell? ⟨w.heap.size + 1 + 1, 0, none⟩ = some (.int .u32 (v0 : Nat)) := hs2.vA.cell 0
      have fr0 : X2.frozen? ⟨w.heap.size + 1 + 1, 0, none⟩ = false := hs2.vA.free 0
      have fr4 : X2.frozen? ⟨w.heap.size + 1 + 1, 4, none⟩ = false := hs2.vA.free 4
      have g6 := wrap32_add one two
      have g7 := wrap32_add v3 one
      clear hs2
      refine wp_region_still_tail 2 (by kernel_rfl) (by kernel_rfl) ?_
      simp only [List.take_succ_cons, List.take_zero, List.drop_succ_cons, List.drop_zero]
      repeat still_step
      try refine wpStill_nil ?_
      change wpList _ _ _ _ _ X.drew
      go_wp2_with fail
      go_roundw
      case rel => exact ⟨k + 1, by omega, by go_num, by rw [HST.out]; exact (HS8.out.set 0 (ad one two)).set 4 (ad v3 one)⟩
      case measure => simp [intOf]; omega
    · obtain rfl : k = 64 := by omega
      go_wp2_with fail
      have hrl := rds_len (l := l) hh 64
      have hrlt := rds_lt l HHL.out 64
      have hbl := blk_len l h
      go_loopw [77] (fun i wx => ∃ k : Nat, k ≤ 8 ∧ i = .int .i64 k ∧ Stp w wx (hTo (blk l h) h k) (rds l h 64)) (fun i _ => 8 - (intOf i).toNat)
      case atStart => exact ⟨0, by omega, rfl, HK.out⟩
      case round =>
        rename World => wx
        obtain ⟨k, hk, rfl, hs⟩ := hrel
        have HX := Lib.hid hs
        clear hs HK
        by_cases hlt : k < 8
        · have e0 : wx.cell? ⟨w.heap.size, k, none⟩ = some (.int .u32 (h.getD k 0 : Nat)) := by
            rw [← hTo_at (blk l h) h k (by omega) (by omega)]
            exact (HX.out.hA.cell k).trans (vw_at _ k (by rw [hTo_len _ _ _ (by omega) (by omega)]; omega))
          have e1 : wx.cell? ⟨w.heap.size + 1 + 1, k, none⟩ = some (.int .u32 ((rds l h 64).getD k 0 : Nat)) := (HX.out.vA.cell k).trans (vw_at _ k (by omega))
          have fr : wx.frozen? ⟨w.heap.size, k, none⟩ = false := HX.out.hA.free k
          have g1 := wrap32_add (h.getD k 0) ((rds l h 64).getD k 0)
          have hset := hTo_set (blk l h) h k (by omega) (by omega)
          rw [blk_at l h k hlt] at hset
          have HST := Lib.hid hset
          clear hset
          generalize h.getD k 0 = x0 at *
          generalize (rds l h 64).getD k 0 = x1 at *
          generalize ad x0 x1 = x2 at *
          have kk8 : (k : Int) < 8 := by omega
          go_wp2_with fail
          refine wp_region_still_tail 8 (by kernel_rfl) (by kernel_rfl) ?_
          simp only [List.take_succ_cons, List.take_zero, List.drop_succ_cons, List.drop_zero]
          repeat still_step
          try refine wpStill_nil ?_
          change wpList _ _ _ _ _ wx.drew
          go_wp2_with fail
          go_roundw
          case rel =>
            have hfin : Stp w (wx.setCell ⟨w.heap.size, k, none⟩ (.int .u32 (x2 : Nat))).drew (hTo (blk l h) h (k + 1)) (rds l h 64) := by rw [← HST.out]; exact (HX.out.next (Below.refl _ _).drew).seth k x2
            exact ⟨_, .int .i64 ((k + 1 : Nat) : Int), _, _, _, _, _, _, _, _, _, _, _, ⟨k + 1, by omega, rfl, hfin⟩, rfl⟩
          case measure => simp [intOf]; omega
        · obtain rfl : k = 8 := by omega
          have hs := HX.out
          rw [show hTo (blk l h) h 8 = blk l h by unfold hTo; rw [List.take_of_length_le (by omega), List.drop_of_length_le (by omega), List.append_nil]] at hs
          have HE := Lib.hid hs
          have HI := Lib.hid (show (Tryd.prog.info? 80).map (·.size) = some (vw (blk l h)).size by rw [vw_size, hbl]; kernel_rfl)
          have HV := Lib.hid (show z8w.size = (vw (blk l h)).size by rw [vw_size, hbl]; rfl)
          clear hs HX
          go_wp2_with (first
            | (refine wpList_load_row rfl 80 (.tmp 2) rfl w.heap.size rfl 80 (vw (blk l h)) (0, 0) _ HE.out.hA Tryd.underlying80 rfl HI.out ?_)
            | (refine wpList_store_rowTo rfl 80 (.tmp 4) (.tmp 89) rfl rfl (w.heap.size + 1) (vw (blk l h)) rfl rfl 80 z8w HE.out.oA HI.out HV.out (vw_one _) ?_))
          refine bodyPost_ret (results_cell_row rfl _ _ (w.heap.size + 1) 80 (vw (blk l h)) (0, 0) _ rfl (setRow_heap wx (w.heap.size + 1) z8w _ 80 (0, 0) HE.out.oA) Tryd.underlying80 rfl HI.out) rfl ?_
          exact ⟨rfl, HE.out.bel.trans ⟨rfl, rfl, rfl, by simp [World.setRow], fun i hi => setRow_other wx (w.heap.size + 1) i _ (by omega)⟩⟩
end Go.Proofs.YtdbfikcpaionbaaDoor
/- Contracts: slices.Grow of nothing, slices.Concat of any parts. -/
namespace Go.Proofs.YtdbfikcpaionbaaDoor
open Go.RowKit
set_option linter.unusedVariables false
theorem zc_size (k : Nat) : (Builtin.zeroCells #[Value.int .u8 0] k).size = k := by simp [Builtin.zeroCells]
set_option maxRecDepth 100000 in
set_option maxHeartbeats 1000000 in
theorem grow_c (n : Nat) (w : World) (h0 : 0 < n) (h1 : n ≤ 1000000) : Calls Tryd.prog 54 #[.slice none 0 0, .int .i64 n] w (Gives [] w) := by
  obtain ⟨i0, hi, hz0, hz1, hz2⟩ := info_parts byteInfo
  have hrz : ∀ ty, (Builtin.append_ #[24, 3] ty #[.slice none 0 0, .int .i64 (n : Nat)]).run Tryd.prog w =
      .ok (.slice (some ⟨w.heap.size, 0, none⟩) n (grownCap w n 0 5)) (w.drew.alloc (.cells (#[] ++ Builtin.zeroCells #[Value.int .u8 0] n ++ Builtin.zeroCells #[Value.int .u8 0] (grownCap w n 0 5 - n)) 5)) := fun ty => by
    have h := Lib.run_append_grow_zeros (P := Tryd.prog) w 24 3 ty 5 i0 (.int .u8 0) .i64 .i64 Tryd.underlying24 Tryd.underlying3 hi hz0 none 0 0 [] (run_firstCells_none w.drew i0.size 0 0 0) n h0 (by rw [hz1]; decide) (by omega) (by omega) (by rw [hz2]; omega) (by rw [Nat.zero_add]; exact growslice_fits h0 (by rw [hz2]; omega))
    rw [Nat.zero_add] at h
    exact h
  have hGn : n ≤ grownCap w n 0 5 := grownCap_ge w _ _ _
  have hGm : grownCap w n 0 5 ≤ maxLen := grownCap_le_maxLen w n 0 5 (by unfold maxLen; omega)
  generalize grownCap w n 0 5 = G at *
  have hG63 : G ≤ 9223372036854775807 := by unfold maxLen at hGm; omega
  have HM := Lib.hid hGm
  have HN := Lib.hid hGn
  clear hGm
  go_enter Tryd.func54, Tryd.ntmps54
  go_wp2_with (at_builtin; refine Lib.wpList_append_run _ rfl _ _ _ _ rfl _ _ rfl rfl _ _ (hrz _) ?_)
  all_goals
    go_ret
    refine ⟨_, rfl, ⟨rfl, .inr ⟨w.heap.size, G, _, rfl, Nat.le_refl _, heap_alloc_new w.drew _, Nat.zero_le _, HM.out, ?_, rfl⟩⟩, ((Below.refl _ _).drew).alloc (Nat.le_refl _) _⟩
    have := HN.out
    simp [zc_size]; omega
set_option maxRecDepth 100000 in
set_option maxHeartbeats 1000000 in
theorem grow0_c (w : World) : Calls Tryd.prog 54 #[.slice none 0 0, .int .i64 0] w (Gives [] w) := by
  go_enter Tryd.func54, Tryd.ntmps54
  go_wp2_with fail
  go_ret
  exact ⟨_, rfl, OwnB.nil_ _ _, Below.refl _ _⟩
theorem growN_c (n : Nat) (w : World) (h1 : n ≤ 1000000) : Calls Tryd.prog 54 #[.slice none 0 0, .int .i64 n] w (Gives [] w) := by
  rcases Nat.eq_zero_or_pos n with rfl | h0
  · exact grow0_c w
  · exact grow_c n w h0 h1
/-- parts handed in: where each lies, its room, its bytes -/
abbrev Part := Option Addr × Nat × List Nat
def pv (p : Part) : Value := .slice p.1 p.2.2.length p.2.1
def cat (ps : List Part) (k : Nat) : List Nat := (ps.take k).flatMap fun p => p.2.2
theorem cat_succ (ps : List Part) (k : Nat) (h : k < ps.length) : cat ps (k + 1) = cat ps k ++ (ps[k]).2.2 := by
  unfold cat
  rw [List.take_succ_eq_append_getElem h, List.flatMap_append]
  simp
theorem cat_le (ps : List Part) : ∀ (k m : Nat), k ≤ m → (cat ps k).length ≤ (cat ps m).length := by
  intro k m h
  have e : ps.take m = ps.take k ++ (ps.drop k).take (m - k) := by rw [← List.take_add, show k + (m - k) = m by omega]
  unfold cat
  rw [e, List.flatMap_append, List.length_append]
  omega
set_option maxRecDepth 100000 in
set_option maxHeartbeats 2000000 in
theorem concatN_c (g n cap : Nat) (ps : List Part) (w : World) (hn : ps.length = n) (hcells : ∀ k (h : k < ps.length), w.cell? ⟨g, k, none⟩ = some (pv ps[k])) (hg : g < w.heap.size)
    (hr : ∀ p ∈ ps, Rd w w.heap.size p.1 (byt p.2.2)) (hlen : (cat ps n).length ≤ 100000) (hn2 : n ≤ 1000) (hcap : n ≤ cap) :
    Calls Tryd.prog 43 #[.slice (some ⟨g, 0, none⟩) n cap] w (Gives (cat ps n) w) := by
  obtain ⟨i0, hi, hz0, hz1, hz2⟩ := info_parts byteInfo
  have HC := Lib.hid hcells
  have HR := Lib.hid hr
  have HN := Lib.hid hn
  have HGR := Lib.hid (growN_c (cat ps n).length)
  have HLE := Lib.hid hlen
  clear hcells hr
  go_enter Tryd.func43, Tryd.ntmps43
  go_wp2_with fail
  go_loopw [3, 11] (fun s i wr => ∃ k : Nat, k ≤ n ∧ i = .int .i64 k ∧ s = .int .i64 ((cat ps k).length : Nat) ∧ w = wr) (fun _ i _ => n - (intOf i).toNat)
  case atStart => exact ⟨0, by omega, rfl, rfl, rfl⟩
  case round =>
    obtain ⟨k, hk, rfl, rfl, rfl⟩ := hrel
    by_cases hlt : k < n
    · have hd := HC.out k (by rw [HN.out]; exact hlt)
      have hs := cat_succ ps k (by rw [HN.out]; exact hlt)
      have hl1 := cat_le ps (k + 1) n hlt
      have hsl : (cat ps (k + 1)).length = (cat ps k).length + (ps[k]'(by rw [HN.out]; exact hlt)).2.2.length := by rw [hs, List.length_append]
      have HSL := Lib.hid hsl
      have hb1 : (cat ps k).length + (ps[k]'(by rw [HN.out]; exact hlt)).2.2.length ≤ 100000 := by rw [← hsl]; omega
      unfold pv at hd
      generalize (ps[k]'(by rw [HN.out]; exact hlt)).2.2.length = pl at *
      generalize (ps[k]'(by rw [HN.out]; exact hlt)).1 = pa at *
      generalize (ps[k]'(by rw [HN.out]; exact hlt)).2.1 = pc at *
      clear hs hsl hl1
      generalize (cat ps k).length = ck at *
      have hkn : (k : Int) < (n : Int) := by omega
      go_wp2_with fail
      go_roundw
      case rel => exact ⟨k + 1, by omega, by go_num, by rw [HSL.out]; go_num, by first | rfl | trivial⟩
      case measure => simp [intOf]; omega
    · obtain rfl : k = n := by omega
      go_wp2_with (go_at_call 54; ((refine (HGR.out _ (by omega)).mono ?_); rintro e w1 ⟨v1, rfl, ho, hb⟩; have HO1 := Lib.hid ho; have HB1 := Lib.hid hb; clear ho hb))
      obtain ⟨n, rfl⟩ : ∃ n, n = k := ⟨_, rfl⟩
      go_loopw [6, 27] (fun v i wr => ∃ j : Nat, j ≤ n ∧ i = .int .i64 j ∧ OwnB wr w.heap.size v (cat ps j) ∧ Below w.heap.size w wr) (fun _ i _ => n - (intOf i).toNat)
      case atStart => exact ⟨0, by omega, rfl, HO1.out, HB1.out⟩
      case round =>
        rename World => wr
        obtain ⟨j, hj, rfl, ho, hbr⟩ := hrel
        have HOK := Lib.hid ho
        have HBK := Lib.hid hbr
        by_cases hltj : j < n
        · have hd := (hbr.cell (p := ⟨g, j, none⟩) hg).trans (HC.out j (by rw [HN.out]; exact hltj))
          have hs := cat_succ ps j (by rw [HN.out]; exact hltj)
          have hl1 := cat_le ps (j + 1) n hltj
          have hpr := (HR.out _ (List.getElem_mem (show j < ps.length by rw [HN.out]; exact hltj))).below hbr
          have HSS := Lib.hid hs
          have hb1 : (cat ps j).length + (ps[j]'(by rw [HN.out]; exact hltj)).2.2.length ≤ 100000 := by rw [hs, List.length_append] at hl1; have := HLE.out; omega
          unfold pv at hd
          clear hs hl1 ho hbr
          generalize (ps[j]'(by rw [HN.out]; exact hltj)).2.2 = pl at *
          generalize (ps[j]'(by rw [HN.out]; exact hltj)).1 = pa at *
          generalize (ps[j]'(by rw [HN.out]; exact hltj)).2.1 = pc at *
          have HPR := Lib.hid hpr
          clear hpr
          have hkn : (j : Int) < (n : Int) := by omega
          go_wp2_with (at_builtin; refine wpList_app _ rfl (.tmp 31) (.tmp 32) _ rfl w.heap.size 5 i0 (.int .u8 0) 1 1 Tryd.underlying24 hi hz0 hz1 hz2 rfl (by decide) _ (cat ps j).length (byt (cat ps j)) rfl (by exact HOK.out) w.heap.size pa pl.length pc (byt pl) rfl (by simp [byt_len]) HPR.out (byt_one _) (by omega) (by omega) (by exact HBK.out.size) ?_; intro v5 w5 hap; have HOA := Lib.hid (show OwnB w5 w.heap.size v5 (cat ps j ++ pl) from OwnB.app hap); have HBA := Lib.hid (show Below w.heap.size w w5 from HBK.out.trans (hap.below HOK.out HBK.out.size)); clear hap)
          go_roundw
          case rel => exact ⟨j + 1, by omega, by go_num, by rw [HSS.out]; exact HOA.out, HBA.out⟩
          case measure => simp [intOf]; omega
        · obtain rfl : j = n := by omega
          go_wp2_with fail
          go_ret
          exact ⟨_, rfl, HOK.out, HBK.out⟩
end Go.Proofs.YtdbfikcpaionbaaDoor
