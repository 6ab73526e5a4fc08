/- Contract: the document's tag. -/
import Derived.Test.YtfblpkjablgafaaRt9
import Derived.Laws.Rows
import Derived.Laws.ResultCell
namespace Go.Proofs.Ytfblpkjablgafaa
open Go.RowKit
set_option linter.unusedVariables false
set_option linter.unusedSimpArgs false
theorem zero_t16 (w : World) : (zeroValue 28).run Try.prog w = .ok (.agg zT) w := by kernel_rfl
theorem t16Sz {L : List Nat} (h : L.length = 16) : (Try.prog.info? 28).map (·.size) = some (vb L).size := by rw [vb_size, h]; kernel_rfl
theorem t16Ln {L : List Nat} (h : L.length = 16) : (Try.prog.info? 28).map (·.size) = some (byt L).length := by rw [byt_len, h]; kernel_rfl
set_option maxRecDepth 1000000 in
set_option maxHeartbeats 40000000 in
theorem rtag_c (k m : List Nat) (A : Option Addr) (ca : Nat) (w : World) (hk : k.length = 32) (hl : ∀ c ∈ k, c < 256) (hm : ∀ c ∈ m, c < 256) (hr : Rd w w.heap.size A (byt m)) (hml : m.length ≤ 10000) (hca : m.length ≤ ca) (hca2 : ca ≤ maxLen) :
    Calls Try.prog 11 #[.agg (vb k), .slice A m.length ca] w fun e w' => e = .returned (.agg (vb (polT k m))) ∧ Below w.heap.size w w' := by
  have zt := zero_t16
  have zt1 : zT.size = 16 := by rfl
  have zt2 : ¬ zT = #[] := by intro h; have := congrArg Array.size h; rw [zt1] at this; cases this
  have ksz : (vb k).size = 32 := by rw [vb_size, hk]
  have HKL := Lib.hid hl
  have HML := Lib.hid hm
  have HR := Lib.hid hr
  have HCL := Lib.hid (clampL_lt k hl)
  obtain ⟨Z, hZ⟩ : ∃ Z, Z = (w.alloc (Obj.cells (vb k) 22)).alloc (Obj.cells zT 28) := ⟨_, rfl⟩
  have ZK := Lib.hid (show Blk Z w.heap.size 22 (vb k) by rw [hZ]; exact (Blk.new _ _ _).alloc _)
  have ZO := Lib.hid (show Blk Z (w.heap.size + 1) 28 zT by
    have h1 := Blk.new (w.alloc (Obj.cells (vb k) 22)) 28 zT
    rw [show (w.alloc (Obj.cells (vb k) 22)).heap.size = w.heap.size + 1 by simp] at h1
    rw [hZ]; exact h1)
  have ZB := Lib.hid (show Below w.heap.size w Z by rw [hZ]; exact ((Below.refl _ _).alloc (Nat.le_refl _) _).alloc (by simp) _)
  have ZZ : Z.heap.size = w.heap.size + 1 + 1 := by rw [hZ]; simp
  clear hl hm hr
  go_enter Try.func11, Try.ntmps11
  go_upto_region 1 with fail
  rw [← hZ]
  clear hZ zt zt1 zt2 ksz
  have HZZ := Lib.hid ZZ
  clear ZZ
  go_wp2_with fail
  refine tloop0 _ Z w.heap.size k _ _ _ _ _ _ _ _ _ _ _ _ _ _ _ _ _ _ _ _ _ _ _ _ _ _ _ _ _ _ _ _ _ _ _ _ _ _ _ _ _ _ _ _ _ _ _ _ _ _ _ _ _ _ _ _ _ _ _ _ _ _ _ _ _ _ _ _ _ _ _ _ _ _ _ _ _ _ _ _ _ _ _ _ _ _ _ _ _ _ _ _ _ _ _ _ _ _ _ _ _ _ _ _ _ _ _ _ _ _ _ _ _ _ _ _ _ _ _ _ _ _ _ _ _ _ _ _ _ _ _ _ _ _ _ _ _ _ _ _ _ _ _ _ _ _ _ _ _ _ _ _ _ _ _ _ _ _ _ _ _ _ _ _ _ _ _ _ _ _ _ _ _ _ _ _ _ _ _ _ _ _ _ _ _ _ _ _ ZK hk HKL ?_
  intro x6 x7 x24 x25 x26 x27 x28 x29 x30 x31 x32 x33 x34 x35 x36 x37 x38 x39 x40 x41 x42 x43 x44 x45 x46 x47 x48 x49 v1 w1 ho1 hb1
  obtain ⟨A1, c1, rfl, _, _, hr1⟩ := ho1.rd
  have B1 := Lib.hid hb1
  have HDG := Lib.hid (digits_c w1.heap.size A1 c1 (clampL k) w1 hr1 (Nat.le_refl _) HCL.out (by rw [clampL_len]; decide) (Nat.lt_of_lt_of_le (number_lt _ HCL.out) (by rw [clampL_len]; decide)))
  rw [clampL_len] at HDG ⊢
  clear ho1 hb1 hr1
  go_upto_region 12 with (go_at_call 18; (refine HDG.out.mono ?_); rintro e w2 ⟨rfl, hb2, F, fl, fb, fv, fa⟩; have B2 := Lib.hid (B1.out.trans (hb2.mono B1.out.size)); have FB := Lib.hid fb; have FV := Lib.hid fv; have FA := Lib.hid fa; clear hb2 fb fv fa)
  have hgf1 : Z.heap.size ≤ w1.heap.size := B1.out.size
  generalize w1.heap.size = gf at *
  clear HDG
  have hmk := run_make_q 10 (by decide) w2
  rw [show ((10 : Nat) : Int) = 10 from rfl] at hmk
  obtain ⟨Y, hY⟩ : ∃ Y, Y = w2.alloc (.cells (vq (List.replicate 10 0)) 42) := ⟨_, rfl⟩
  rw [← hY] at hmk
  have YH := Lib.hid (show Blk Y w2.heap.size 42 (vq (List.replicate 10 0)) by rw [hY]; exact Blk.new _ _ _)
  have YF := Lib.hid (show Blk Y gf 42 (vq F) by rw [hY]; exact FA.out.alloc _)
  have YB := Lib.hid (show Below Z.heap.size Z Y by rw [hY]; exact B2.out.alloc B2.out.size _)
  have YW := Lib.hid (show Below w.heap.size w Y from ZB.out.trans (YB.out.mono ZB.out.size))
  have YM := Lib.hid (show Rd Y Y.heap.size A (byt m) from (HR.out.below YW.out).more YW.out.size)
  clear hY
  go_wp2_with fail
  clear hmk
  refine tloop2 _ Y gf w2.heap.size ca A m F (List.replicate 10 0) _ _ _ _ _ _ _ _ _ _ _ _ _ _ _ _ _ _ _ _ _ _ _ _ _ _ _ _ _ _ _ _ _ _ _ _ _ _ _ _ _ _ _ _ _ _ _ _ _ _ _ _ _ _ _ _ _ _ _ _ _ _ _ _ _ _ _ _ _ _ _ _ _ _ _ _ _ _ _ _ _ _ _ _ _ _ _ _ _ _ _ _ _ _ _ _ _ _ _ _ _ _ _ _ _ _ _ _ _ _ _ _ _ _ _ _ _ _ _ _ _ _ _ _ _ _ _ _ _ _ _ _ _ _ _ _ _ _ _ _ _ _ _ _ _ _ _ _ _ _ _ _ _ _ _ _ _ _ _ _ _ _ _ _ _ _ _ _ _ _ _ _ _ _ _ _ _ _ _ _ _ _ _ _ _ _ _ YM YF YH fl (Lib.hid (fun j => by have := FB.out j; omega)) (Lib.hid ⟨rfl, fun j => by rw [rep_at]; decide, by rw [V13_rep]; rfl⟩) HML hml hca hca2 ?_
  intro y10 y11 y12 y13 y14 y15 y16 y17 y53 y54 y55 y56 y57 y58 y59 y60 y61 y62 y63 y64 y65 y66 y67 y68 y69 y70 y71 y72 y73 y74 y75 y76 y77 y78 y79 y80 y81 y82 y83 y84 y85 y86 y87 y88 y89 y90 y91 y92 y93 y94 y95 y96 y97 y98 y99 y100 y101 y102 y103 y104 y105 y106 y107 y108 y109 y110 y111 y112 y113 y114 y115 y116 y117 y118 y119 y120 y121 y122 y123 y124 y125 y126 y127 y128 y129 y130 y131 y132 y133 y134 y135 y136 y137 y138 y139 y140 y141 y142 y143 gl L w3 hs3 ha3 hb3
  have S3 := Lib.hid hs3
  have A3 := Lib.hid ha3
  have B3 := Lib.hid (YB.out.trans (hb3.mono YB.out.size))
  have HEW := Lib.hid (show Calls Try.prog 19 #[.slice (some ⟨gl, 0, none⟩) 10 10] w3 _ by
    have h1 := even_c (gl + 1) (some ⟨gl, 0, none⟩) 10 L w3 (rd_blk ha3 (q64 L) 10 (by simp [vq]; rw [List.take_of_length_le (by rw [q64_len, hs3.len]; exact Nat.le_refl _)])) ha3.lt (by rw [hs3.len]; exact Nat.le_refl _) (by rw [hs3.len]; decide) (fun j => by have := hs3.lt j; omega)
    rw [hs3.len] at h1
    exact h1)
  have HLE := Lib.hid (fun (g : Nat) (D : List Nat) (W : World) (hb : Blk W g 42 (vq D)) (h10 : D.length = 10) (hD : ∀ j, D.getD j 0 < 8192) => least_c g D W hb h10 hD)
  clear hs3 ha3 hb3
  go_upto_region 35 with (first
    | (go_at_call 19; (refine HEW.out.mono ?_); rintro e w4 ⟨rfl, hb4, L4, q4, l4, b4, v4, a4⟩; have B4 := Lib.hid (B3.out.trans (hb4.mono B3.out.size)); have V4 := Lib.hid v4; have HL4 := Lib.hid (HLE.out _ L4 w4 a4 l4 b4); clear hb4 v4 a4 b4)
    | (go_at_call 20; (refine HL4.out.mono ?_); rintro e w5 ⟨g5, L5, rfl, hb5, l5, b5, v5, a5⟩; have B5 := Lib.hid (B4.out.trans (hb5.mono B4.out.size)); have V5' := Lib.hid v5; have LB5 := Lib.hid b5; have A5 := Lib.hid a5; clear hb5 v5 a5 b5))
  clear HEW HLE HL4
  have HV := Lib.hid (show V13 L5 = polV k m by
    have h1 := S3.out.val
    rw [V4.out, Nat.add_mul_mod_self_left, ← V5'.out, FV.out] at h1
    rw [h1]; rfl)
  have zt := zero_t16
  have zt1 : zT.size = 16 := by rfl
  have zt2 : ¬ zT = #[] := by intro h; have := congrArg Array.size h; rw [zt1] at this; cases this
  obtain ⟨X, hX⟩ : ∃ X, X = w5.alloc (Obj.cells zT 28) := ⟨_, rfl⟩
  have hlt5 : Z.heap.size ≤ w5.heap.size := B5.out.size
  have XO := Lib.hid (show Blk X w5.heap.size 28 zT by rw [hX]; exact Blk.new _ _ _)
  have XL := Lib.hid (show Blk X g5 42 (vq L5) by rw [hX]; exact A5.out.alloc _)
  have XB := Lib.hid (show Below Z.heap.size Z X by rw [hX]; exact B5.out.alloc B5.out.size _)
  have XK := Lib.hid (ZK.out.below XB.out ZK.out.lt)
  have hg5 : g5 < w5.heap.size := A5.out.lt
  have hzz := HZZ.out
  go_upto_region 36 with fail
  rw [← hX]
  clear hX zt zt1 zt2
  generalize w5.heap.size = go at *
  go_wp2_with fail
  refine tloop10 _ X w.heap.size g5 go k L5 (List.replicate 16 0) _ _ _ _ _ _ _ _ _ _ _ _ _ _ _ _ _ _ _ _ _ _ _ _ _ _ _ _ _ _ _ _ _ _ _ _ _ _ _ _ _ _ _ _ _ _ _ _ _ _ _ _ _ _ _ _ _ _ _ _ _ _ _ _ _ _ _ _ _ _ _ _ _ _ _ _ _ _ _ _ _ _ _ _ _ _ _ _ _ _ _ _ _ _ _ _ _ _ _ _ _ _ _ _ _ _ _ _ _ _ _ _ _ _ _ _ _ _ _ _ _ _ _ _ _ _ _ _ _ _ _ _ _ _ _ _ _ _ _ _ _ _ _ _ _ _ _ _ _ _ _ _ _ _ _ _ _ _ _ _ _ _ _ _ _ _ _ _ _ _ _ _ _ _ _ _ _ _ _ _ _ _ _ _ _ _ (by omega) (by omega) XK XL XO hk HKL l5 rfl LB5 ?_
  intro z19 z20 z21 z22 z23 z147 z148 z149 z150 z151 z152 z153 z154 z155 z156 z157 z158 z159 z160 z161 z162 z163 z164 z165 z166 z167 z168 z169 z170 z171 z172 z173 z174 z175 z176 z177 z178 z179 z180 z181 z182 z183 z184 z185 z186 z187 z188 z189 w6 ha6 hg6
  have htl : (form (V13 L5 + number (k.drop 16)) 16).length = 16 := form_len _ _
  have HPT := Lib.hid (show form (V13 L5 + number (k.drop 16)) 16 = polT k m by
    rw [polT, HV.out, List.take_of_length_le (l := k.drop 16) (by rw [List.length_drop, hk]; decide)]
    exact (form_mod 16 _).symm)
  have HT1 := Lib.hid (t16Sz htl)
  have HT2 := Lib.hid (t16Ln htl)
  have HT3 := Lib.hid (show zT.size = (vb (form (V13 L5 + number (k.drop 16)) 16)).size by rw [vb_size, htl]; rfl)
  clear htl
  generalize form (V13 L5 + number (k.drop 16)) 16 = T at *
  have A6 := Lib.hid ha6
  have B6 := Lib.hid (g1_below_refl hg6 XB.out (by omega) XB.out.size)
  have O6 := Lib.hid (ZO.out.below B6.out ZO.out.lt)
  clear ha6 hg6
  have BF := Lib.hid (show Below w.heap.size w (w6.setRow (w.heap.size + 1) (vb T)) from below_row (ZB.out.trans (B6.out.mono ZB.out.size)) (by omega) _)
  have RF := Lib.hid (show Blk (w6.setRow (w.heap.size + 1) (vb T)) (w.heap.size + 1) 28 (vb T) from setRow_heap _ _ zT _ _ (0, 0) O6.out)
  go_wp2_with (first
    | (refine wpList_loadG rfl 28 (.tmp 18) rfl go 0 rfl (byt T) _ (by have := rangeAt_blk A6.out; simpa [vb] using this) Try.underlying28 rfl HT2.out ?_)
    | (refine wpList_store_rowTo rfl 28 (.tmp 4) (.tmp 190) rfl rfl (w.heap.size + 1) (vb T) rfl rfl 28 zT O6.out HT1.out HT3.out (vb_one _) ?_))
  first
    | rw [Exit.noGoto_ret]
    | skip
  refine bodyPost_ret (results_cell_row rfl _ _ (w.heap.size + 1) 28 (vb T) (0, 0) _ rfl RF.out Try.underlying28 rfl HT1.out) rfl ?_
  exact ⟨by rw [HPT.out], BF.out⟩
end Go.Proofs.Ytfblpkjablgafaa
