/- Contract: the document's example of tags. -/
import Derived.Test.YtfblpkjablgafaaTg1
import Derived.Test.YtfblpkjablgafaaHxp
import Derived.Lib.SlBytesConst
import Derived.Lib.SmallJoins
namespace Go.Proofs.Ytfblpkjablgafaa
open Go.RowKit
set_option linter.unusedVariables false
set_option linter.unusedSimpArgs false
def exK : List Nat := [133, 214, 190, 120, 87, 85, 109, 51, 127, 68, 82, 254, 66, 213, 6, 168, 1, 3, 128, 138, 251, 13, 178, 253, 74, 191, 246, 175, 65, 73, 245, 27]
def exM : List Nat := [67, 114, 121, 112, 116, 111, 103, 114, 97, 112, 104, 105, 99, 32, 70, 111, 114, 117, 109, 32, 82, 101, 115, 101, 97, 114, 99, 104, 32, 71, 114, 111, 117, 112]
def exT : List Nat := [168, 6, 29, 193, 48, 81, 54, 198, 194, 43, 139, 175, 12, 1, 39, 169]
def exH : List Nat := [56, 53, 100, 54, 98, 101, 55, 56, 53, 55, 53, 53, 54, 100, 51, 51, 55, 102, 52, 52, 53, 50, 102, 101, 52, 50, 100, 53, 48, 54, 97, 56, 48, 49, 48, 51, 56, 48, 56, 97, 102, 98, 48, 100, 98, 50, 102, 100, 52, 97, 98, 102, 102, 54, 97, 102, 52, 49, 52, 57, 102, 53, 49, 98]
def exHS : ByteArray := ByteArray.mk #[56, 53, 100, 54, 98, 101, 55, 56, 53, 55, 53, 53, 54, 100, 51, 51, 55, 102, 52, 52, 53, 50, 102, 101, 52, 50, 100, 53, 48, 54, 97, 56, 48, 49, 48, 51, 56, 48, 56, 97, 102, 98, 48, 100, 98, 50, 102, 100, 52, 97, 98, 102, 102, 54, 97, 102, 52, 49, 52, 57, 102, 53, 49, 98]
def exTS : ByteArray := ByteArray.mk #[97, 56, 48, 54, 49, 100, 99, 49, 51, 48, 53, 49, 51, 54, 99, 54, 99, 50, 50, 98, 56, 98, 97, 102, 48, 99, 48, 49, 50, 55, 97, 57]
theorem exTS_list : exTS.toList = [97, 56, 48, 54, 49, 100, 99, 49, 51, 48, 53, 49, 51, 54, 99, 54, 99, 50, 50, 98, 56, 98, 97, 102, 48, 99, 48, 49, 50, 55, 97, 57] := ByteArray.toList_mk _
theorem exH_str : bstr exH = exHS := by rfl
theorem exH_res : resU exH = exK := by decide +kernel
theorem exH_err : errU exH = 0 := by decide +kernel
theorem ex_tag : polT exK exM = exT := by decide +kernel
theorem ex_str : bstr (hexs exT) = exTS := by rfl
theorem rd_lit (w : World) (l : List Nat) (fr : Nat × Nat) : Rd (w.alloc (.cells (vb l) 5 fr)) (w.heap.size + 1) (some ⟨w.heap.size, 0, none⟩) (byt l) := fun _ => ⟨_, rfl, Nat.lt_succ_self _, fun j u hu => by
  rw [Addr.add_mid, Nat.zero_add, World.cell?_alloc_mark]
  show (byt l).toArray[j]? = some u
  rw [List.getElem?_toArray, hu]⟩
set_option maxRecDepth 100000 in
set_option maxHeartbeats 4000000 in
theorem awake05_c (w : World) : Calls Try.prog 8 #[] w fun e w' => e = .returned (.bool true) ∧ Below w.heap.size w w' := by
  have kcv := fun (w : World) (C : Array Value) (n c : Nat) => Lib.run_convert_bytes_const (P := Try.prog) w 24 5 C n c Try.underlying24 Try.underlying5
  have HUX := Lib.hid (fun W => by
    have h := runhex_c exH W (by decide) (by decide)
    rw [exH_str, exH_res, exH_err] at h
    exact h)
  have kl : exK.length = 32 := rfl
  have HKL := Lib.hid kl
  clear kl
  have zt := zero_tag
  have zt1 : zT.size = 16 := by rfl
  have zt2 : ¬ zT = #[] := by intro h; have := congrArg Array.size h; rw [zt1] at this; cases this
  go_enter Try.func8, Try.ntmps8
  go_upto_region 2 with (go_at_call 16; (refine (HUX.out _).mono ?_); rintro e w1 ⟨v1, rfl, ho, hb⟩; obtain ⟨g, cap, rest, rfl, hg, hblk, hcap, _⟩ := ho.open_ (by decide); have HO := Lib.hid ho; have HB := Lib.hid hb; have HBK := Lib.hid hblk; clear ho hb hblk)
  rw [HKL.out]
  obtain ⟨W, hW⟩ : ∃ W, W = (w1.alloc (Obj.cells (vb exM) 5 (34, 35))).alloc (Obj.cells #[Value.slice (some ⟨w1.heap.size, 0, none⟩) 34 34] 24) := ⟨_, rfl⟩
  have hbw : Below w.heap.size w W := by rw [hW]; exact (HB.out.alloc HB.out.size _).alloc (by have := HB.out.size; simp; omega) _
  have HTG := Lib.hid (show Calls Try.prog 12 #[.agg (vb exK), .slice (some ⟨w1.heap.size + 1, 0, none⟩) 1 1] W fun e w' => e = .returned (.agg (vb exT)) ∧ Below W.heap.size W w' by
    rw [← ex_tag]
    refine tag_c exK exM _ W rfl (by decide) (by decide) (by decide) fun W' hb' => ?_
    refine concatN_c (w1.heap.size + 1) 1 1 [(some ⟨w1.heap.size, 0, none⟩, 34, exM)] W' rfl (fun k h => ?_) ?_ (fun p hp => ?_) (by show (exM ++ []).length ≤ 100000; decide) (by decide) (by decide)
    · have hk : k = 0 := by simp only [List.length_cons, List.length_nil] at h; omega
      subst hk
      have h1 := (Blk.new (w1.alloc (Obj.cells (vb exM) 5 (34, 35))) 24 #[Value.slice (some ⟨w1.heap.size, 0, none⟩) 34 34]).cell 0
      rw [show (w1.alloc (Obj.cells (vb exM) 5 (34, 35))).heap.size = w1.heap.size + 1 by simp] at h1
      exact (hb'.cell (p := ⟨w1.heap.size + 1, 0, none⟩) (by rw [hW]; simp)).trans (by rw [hW]; exact h1)
    · have := hb'.size
      rw [hW] at this
      simp at this; omega
    · rw [List.mem_singleton.1 hp]
      have h1 := rd_lit w1 exM (34, 35)
      have h2 : Rd W (w1.heap.size + 1) (some ⟨w1.heap.size, 0, none⟩) (byt exM) := by rw [hW]; exact h1.ext ((Below.refl _ _).alloc (Nat.le_refl _) _)
      refine (h2.ext hb').more ?_
      have := hb'.size
      rw [hW] at this
      simp at this; omega)
  rw [hW] at HTG hbw
  have HBW := Lib.hid hbw
  clear hbw hW
  have HRG := Lib.hid (show w1.rangeAt g 0 (byt exK) from fun j u hu => by
    have h1 := HBK.out.cell j
    rw [Nat.zero_add, h1]
    have hj : j < (byt exK).length := by
      rcases Nat.lt_or_ge j (byt exK).length with h | h
      · exact h
      · rw [List.getElem?_eq_none h] at hu; cases hu
    rw [List.getElem?_toArray, List.getElem?_append_left hj]; exact hu)
  have HIS := Lib.hid (show (Try.prog.info? 29).map (·.size) = some (vb exT).size by rw [vb_size]; kernel_rfl)
  have HRH := Lib.hid (fun (W : World) (g : Nat) (h : Blk W g 29 (vb exT)) => by
    have h1 := rhex_c (g + 1) (some ⟨g, 0, none⟩) 16 exT W (rd_blk h (byt exT) 16 rfl) (by decide) (by decide)
    rw [ex_str] at h1
    exact (show Calls Try.prog 17 #[.slice (some ⟨g, 0, none⟩) 16 16] W fun e w' => e = .returned (.string exTS) ∧ ∃ n, w' = W.drewN n from h1))
  have hAA := fun W => run_arrayAt (P := Try.prog) (w := W) 23 5 32 (some ⟨g, 0, none⟩) 32 cap Try.underlying23 (Nat.le_refl _)
  go_wp2_with (first
    | (refine wpList_loadG rfl 23 (.tmp 9) rfl g 0 rfl (byt exK) _ HRG.out Try.underlying23 rfl (by kernel_rfl) ?_)
    | (go_at_call 12; (refine HTG.out.mono ?_); rintro e w2 ⟨rfl, hb⟩; have HB2 := Lib.hid (HBW.out.trans (hb.mono HBW.out.size)); clear hb)
    | (refine wpList_store_rowTo rfl 29 (.tmp 3) (.tmp 14) rfl rfl w2.heap.size (vb exT) rfl rfl 29 zT (by exact Blk.new _ _ _) HIS.out (by rw [vb_size]; rfl) (vb_one _) ?_; obtain ⟨Y, hY⟩ : ∃ Y, Y = (w2.alloc (Obj.cells zT 29)).setRow w2.heap.size (vb exT) := ⟨_, rfl⟩; have HBY := Lib.hid (show Below w.heap.size w Y from (by rw [hY]; exact below_row (HB2.out.alloc HB2.out.size _) HB2.out.size _)); have HHX := Lib.hid (HRH.out Y _ (by rw [hY]; exact setRow_heap _ _ _ _ _ (0, 0) (Blk.new w2 _ _))); rw [← hY]; clear hY)
    | (go_at_call 17; (refine HHX.out.mono ?_); rintro e w3 ⟨rfl, n, rfl⟩))
  go_ret
  refine ⟨?_, belowDrewN _ HBY.out⟩
  rw [exTS_list]
  rfl
end Go.Proofs.Ytfblpkjablgafaa
