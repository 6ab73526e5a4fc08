/- Contract: the document's example of fingerprints. -/
import Derived.Test.YthlmlmkabjppeaaDoorHx3
import Derived.Lib.SlBytesConst
import Derived.Lib.SmallJoins
namespace Go.Proofs.YthlmlmkabjppeaaDoor
open Go.RowKit
set_option linter.unusedVariables false
set_option linter.unusedSimpArgs false
def abcS' : ByteArray := ByteArray.mk #[98, 97, 55, 56, 49, 54, 98, 102, 56, 102, 48, 49, 99, 102, 101, 97, 52, 49, 52, 49, 52, 48, 100, 101, 53, 100, 97, 101, 50, 50, 50, 51, 98, 48, 48, 51, 54, 49, 97, 51, 57, 54, 49, 55, 55, 97, 57, 99, 98, 52, 49, 48, 102, 102, 54, 49, 102, 50, 48, 48, 49, 53, 97, 100]
theorem abcS_list : abcS'.toList = [98, 97, 55, 56, 49, 54, 98, 102, 56, 102, 48, 49, 99, 102, 101, 97, 52, 49, 52, 49, 52, 48, 100, 101, 53, 100, 97, 101, 50, 50, 50, 51, 98, 48, 48, 51, 54, 49, 97, 51, 57, 54, 49, 55, 55, 97, 57, 99, 98, 52, 49, 48, 102, 102, 54, 49, 102, 50, 48, 48, 49, 53, 97, 100] := ByteArray.toList_mk _
theorem abc_str : bstr (hexs (sha [97, 98, 99])) = abcS' := by
  rw [sha_abc]
  rfl
theorem rd_lit (w : World) (l : List Nat) (fr : Nat × Nat) : Rd (w.alloc (.cells (vb l) 5 fr)) (w.heap.size + 1) (some ⟨w.heap.size, 0, none⟩) (byt l) := fun _ => ⟨_, rfl, Nat.lt_succ_self _, fun j u hu => by
  rw [Addr.add_mid, Nat.zero_add, World.cell?_alloc_mark]
  show (byt l).toArray[j]? = some u
  rw [List.getElem?_toArray, hu]⟩
set_option maxRecDepth 100000 in
set_option maxHeartbeats 4000000 in
theorem awake02_c (w : World) (ht : ∀ i, i < 64 → w.cell? ⟨0, i, none⟩ = some (.int .u32 (kc.getD i 0 : Nat))) (hw : 0 < w.heap.size) :
    Calls Tryd.prog 18 #[] w fun e w' => e = .returned (.bool true) ∧ Below w.heap.size w w' := by
  have kcv := fun (w : World) (C : Array Value) (n c : Nat) => Lib.run_convert_bytes_const (P := Tryd.prog) w 22 5 C n c Tryd.underlying22 Tryd.underlying5
  go_enter Tryd.func18, Tryd.ntmps18
  have zf := zero_sum
  have zs1 : zSum.size = 32 := by rfl
  have zs2 : ¬ zSum = #[] := by intro h; have := congrArg Array.size h; rw [zs1] at this; cases this
  have HT := Lib.hid ht
  clear ht
  obtain ⟨W, hW⟩ : ∃ W, W = (w.alloc (Obj.cells #[Value.int .u8 97, Value.int .u8 98, Value.int .u8 99] 5 (3, 4))).alloc (Obj.cells #[Value.slice (some ⟨w.heap.size, 0, none⟩) 3 3] 22) := ⟨_, rfl⟩
  have hbw : Below w.heap.size w W := by rw [hW]; exact ((Below.refl _ _).alloc (Nat.le_refl _) _).alloc (by simp) _
  have hof := of_c (w.heap.size + 1) 1 1 [(some ⟨w.heap.size, 0, none⟩, 3, [97, 98, 99])] [97, 98, 99] W rfl (by decide) rfl (fun k h => by
      have hk : k = 0 := by simp only [List.length_cons, List.length_nil] at h; omega
      subst hk
      rw [hW]
      have := (Blk.new (w.alloc (Obj.cells #[Value.int .u8 97, Value.int .u8 98, Value.int .u8 99] 5 (3, 4))) 22 #[Value.slice (some ⟨w.heap.size, 0, none⟩) 3 3]).cell 0
      rw [show (w.alloc (Obj.cells #[Value.int .u8 97, Value.int .u8 98, Value.int .u8 99] 5 (3, 4))).heap.size = w.heap.size + 1 by simp] at this
      exact this) (by rw [hW]; simp) (fun p hp => by
      rw [List.mem_singleton.1 hp, hW]
      have h1 := rd_lit w [97, 98, 99] (3, 4)
      refine (h1.ext ((Below.refl _ _).alloc (Nat.le_refl _) _)).more ?_
      simp) (by decide) (by decide) (by decide) (fun i hi => (hbw.cell (p := ⟨0, i, none⟩) hw).trans (HT.out i hi)) (Nat.lt_of_lt_of_le hw hbw.size)
  rw [hW] at hof hbw
  have HOF := Lib.hid hof
  have HBW := Lib.hid hbw
  clear hof hbw hW
  have HIS := Lib.hid (show (Tryd.prog.info? 26).map (·.size) = some (vb (sha [97, 98, 99])).size by rw [vb_size, sha_len]; kernel_rfl)
  go_wp2_with (first
    | (go_at_call 21; (refine HOF.out.mono ?_); rintro e w1 ⟨rfl, hb⟩; have HB1 := Lib.hid (HBW.out.trans (hb.mono (by simp; omega))); clear hb)
    | (refine wpList_store_rowTo rfl 26 (.tmp 1) (.tmp 5) rfl rfl w1.heap.size (vb (sha [97, 98, 99])) rfl rfl 26 zSum (by exact Blk.new _ _ _) HIS.out (by rw [vb_size, sha_len]; rfl) (vb_one _) ?_; obtain ⟨Y, hY⟩ : ∃ Y, Y = (w1.alloc (Obj.cells zSum 26)).setRow w1.heap.size (vb (sha [97, 98, 99])) := ⟨_, rfl⟩; have hby : Blk Y w1.heap.size 26 (vb (sha [97, 98, 99])) := (by rw [hY]; exact setRow_heap _ _ _ _ _ (0, 0) (Blk.new w1 _ _)); have HBY := Lib.hid (show Below w.heap.size w Y from (by rw [hY]; exact (HB1.out.alloc HB1.out.size _).trans ⟨rfl, rfl, rfl, by simp [World.setRow], fun i hi => setRow_other _ _ i _ (by have := HB1.out.size; omega)⟩)); have hhx := hex_c (w1.heap.size + 1) (some ⟨w1.heap.size, 0, none⟩) 32 (sha [97, 98, 99]) Y (rd_blk hby _ 32 (by show byt _ = ((byt (sha [97, 98, 99])).toArray.toList).take 32; rw [List.toList_toArray, List.take_of_length_le (by rw [byt_len, sha_len]; decide)])) (by have := hby.lt; omega) (sha_lt _) (by rw [sha_len]; decide); rw [sha_len, abc_str] at hhx; have HHX := Lib.hid hhx; rw [← hY]; clear hhx hby hY)
    | (go_at_call 26; (refine HHX.out.mono ?_); rintro e w2 ⟨rfl, hb⟩; have HB2 := Lib.hid (HBY.out.trans (hb.mono HBY.out.size)); clear hb))
  go_ret
  refine ⟨?_, HB2.out⟩
  rw [abcS_list]
  rfl
end Go.Proofs.YthlmlmkabjppeaaDoor
