/- Contract: the document's fingerprint. -/
import Derived.Test.YthlmlmkabjppeaaDoorRl10
import Derived.StillTailTactics
namespace Go.Proofs.YthlmlmkabjppeaaDoor
open Go.RowKit
set_option linter.unusedVariables false
set_option linter.unusedSimpArgs false
theorem fld_next (m : List Nat) (n : Nat) : fld m (n + 1) = blk ((m.drop (64 * n)).take 64) (fld m n) := rfl
set_option maxRecDepth 100000 in
set_option maxHeartbeats 40000000 in
theorem rsum_c (B : Nat) (A : Option Addr) (ca : Nat) (m : List Nat) (w : World) (hr : Rd w B A (byt m)) (hB : B ≤ w.heap.size) (hml : ∀ c ∈ m, c < 256) (hlen : m.length ≤ 10000) :
    Calls Tryd.prog 20 #[.slice A m.length ca] w fun e w' => e = .returned (.agg (vb (sha m))) ∧ Below w.heap.size w w' := by
  obtain ⟨i0, hi, hz0, hz1, hz2⟩ := info_parts byteInfo
  obtain ⟨i4, hi4, hy0, hy1, hy2⟩ := info_parts wordInfo
  have HR := Lib.hid hr
  have HML := Lib.hid hml
  have HLEN := Lib.hid hlen
  clear hr hml
  go_enter Tryd.func20, Tryd.ntmps20
  have zf := zero_sum
  have zs1 : zSum.size = 32 := by rfl
  have zs2 : ¬ zSum = #[] := by intro h; have := congrArg Array.size h; rw [zs1] at this; cases this
  go_upto_region 1 with fail
  obtain ⟨Z, hZ⟩ : ∃ Z, Z = w.alloc (Obj.cells zSum 26) := ⟨_, rfl⟩
  have hbz : Below w.heap.size w Z := by rw [hZ]; exact (Below.refl _ _).alloc (Nat.le_refl _) _
  have h2 : Blk Z w.heap.size 26 zSum := by rw [hZ]; exact Blk.new _ _ _
  rw [← hZ]
  clear hZ zf zs1 zs2
  have HZ := Lib.hid hbz
  have H2 := Lib.hid h2
  have HRZ := Lib.hid ((HR.out.below (hbz.mono hB)).more (Nat.le_trans hB hbz.size))
  clear hbz h2
  go_wp2_with (first
    | (at_builtin; refine wpList_app _ rfl (.tmp 26) (.tmp 27) _ rfl Z.heap.size 5 i0 (.int .u8 0) 1 1 Tryd.underlying22 hi hz0 hz1 hz2 rfl (by decide) _ 0 [] rfl (by exact OwnB.new _ _ [] (Nat.le_refl _) (by simp [maxLen])) Z.heap.size A m.length ca (byt m) rfl (by simp [byt_len]) (by exact HRZ.out.ext ((Below.refl _ _).alloc (Nat.le_refl _) _)) (byt_one m) (by omega) (by omega) (by simp) ?_; intro v1 w1 hap; have ho1 : OwnB w1 Z.heap.size v1 m := (by have := hap.own; simpa [OwnB] using this); have hb1 : Below Z.heap.size Z w1 := ((Below.refl _ _).alloc (Nat.le_refl _) _).trans (hap.below (by exact OwnB.new _ _ [] (Nat.le_refl _) (by simp [maxLen])) (by simp)); obtain ⟨A1, k1, rfl, _, _, _⟩ := ho1.rd; have HO1 := Lib.hid ho1; have HB1 := Lib.hid hb1; clear hap ho1 hb1)
    | (at_builtin; refine wpList_app _ rfl (.tmp 29) (.tmp 30) _ rfl Z.heap.size 5 i0 (.int .u8 0) 1 1 Tryd.underlying22 hi hz0 hz1 hz2 rfl (by decide) _ _ _ rfl (HO1.out.alloc _) _ _ 1 1 [.int .u8 (128 : Nat)] rfl rfl (by exact rd_one _ _ _) (byt_one [128]) (by omega) (by omega) (by have := HB1.out.size; simp; omega) ?_; intro v3 w3 hap; have HO3 := Lib.hid (show OwnB w3 Z.heap.size v3 (padZ m 0) from by have h1 := OwnB.snoc hap; simpa [padZ] using h1); have HB3 := Lib.hid (show Below Z.heap.size Z w3 from (HB1.out.alloc HB1.out.size _).trans (hap.below (HO1.out.alloc _) (by have := HB1.out.size; simp; omega))); clear hap))
  go_loopw [3] (fun v wr => ∃ j : Nat, j ≤ zs m.length ∧ OwnB wr Z.heap.size v (padZ m j) ∧ Below Z.heap.size Z wr) (fun v _ => m.length + 1 + zs m.length - lenOf v)
  case atStart => exact ⟨0, Nat.zero_le _, HO3.out, HB3.out⟩
  case round =>
    rename World => wr
    obtain ⟨j, hj, ho, hb⟩ := hrel
    have hzl := zs_lt m.length
    obtain ⟨A4, k4, rfl, _, _, _⟩ := ho.rd
    have HO4 := Lib.hid ho
    have HB4 := Lib.hid hb
    have hL := padZ_len m j
    have HL4 := Lib.hid hL
    have h63 : ((padZ m j).length : Int).tmod 64 = ((padZ m j).length : Int) % 64 := Int.tmod_eq_emod_of_nonneg (by omega)
    clear ho hb HO1 HB1 HO3 HB3
    by_cases hlt : j < zs m.length
    · have hne := zs_at m.length j hlt
      rw [← hL] at hne
      have tne : ((((padZ m j).length : Int) % 64) != 56) = true := by rw [bne_iff_ne]; exact hne
      clear hne hL
      have HSU := Lib.hid (padZ_succ m j)
      have HPL := Lib.hid (padZ_len m (j + 1))
      go_wp2_with (at_builtin; refine wpList_app _ rfl (.tmp 36) (.tmp 37) _ rfl Z.heap.size 5 i0 (.int .u8 0) 1 1 Tryd.underlying22 hi hz0 hz1 hz2 rfl (by decide) _ _ _ rfl (HO4.out.alloc _) _ _ 1 1 [.int .u8 (0 : Nat)] rfl rfl (by exact rd_one _ _ _) (byt_one [0]) (by have := HL4.out; have := HLEN.out; omega) (by have := HL4.out; have := HLEN.out; omega) (by have := HB4.out.size; simp; omega) ?_; intro v5 w5 hap; have HO5 := Lib.hid (show OwnB w5 Z.heap.size v5 (padZ m (j + 1)) from by rw [HSU.out]; exact OwnB.snoc hap); have HB5 := Lib.hid (show Below Z.heap.size Z w5 from (HB4.out.alloc HB4.out.size _).trans (hap.below (HO4.out.alloc _) (by have := HB4.out.size; simp; omega))); clear hap)
      refine ⟨⟨j + 1, by omega, HO5.out, HB5.out⟩, ?_⟩
      have := HO5.out.lenOf; have := HPL.out; have := HO4.out.lenOf; have := HL4.out
      omega
    · obtain rfl : j = zs m.length := by omega
      have hend := zs_end m.length
      rw [← hL] at hend
      have tne : ((((padZ m (zs m.length)).length : Int) % 64) != 56) = false := by rw [bne_eq_false_iff_eq]; exact hend
      clear hend hL
      have esz : IntKind.u64.wrap ((m.length : Int) * 8) = ((8 * m.length : Nat) : Int) := by simp [IntKind.wrap, IntKind.signed, IntKind.bits]; omega
      have ec : IntKind.u64.wrap (m.length : Int) = (m.length : Int) := by simp [IntKind.wrap, IntKind.signed, IntKind.bits]; omega
      have HNL := Lib.hid (show (padZ m (zs m.length)).length ≤ 20000 by have := HL4.out; have := HLEN.out; omega)
      have HHI := Lib.hid (fun W => rhigh_c (8 * m.length) 8 W (by have := HLEN.out; omega) (.inr rfl))
      clear hlen
      go_wp2_with (first
        | (go_at_call 41; (refine (HHI.out _).mono ?_); rintro e w5 ⟨v5, rfl, ho, hb⟩; obtain ⟨A5, k5, rfl, _, _, hr5⟩ := ho.rd; have HR5 := Lib.hid hr5; have HB5 := Lib.hid hb; clear ho hb hr5)
        | (at_builtin; refine wpList_app _ rfl (.tmp 39) (.tmp 44) _ rfl Z.heap.size 5 i0 (.int .u8 0) 1 1 Tryd.underlying22 hi hz0 hz1 hz2 rfl (by decide) _ _ _ rfl (HO4.out.next HB5.out) w5.heap.size A5 (high (8 * m.length) 8).length k5 (byt (high (8 * m.length) 8)) rfl (by simp [byt_len]) HR5.out (byt_one _) (by have := HNL.out; rw [high_len]; omega) (by have := HNL.out; rw [high_len]; omega) (Nat.le_trans HB4.out.size HB5.out.size) ?_; intro v6 w6 hap; have HO6 := Lib.hid (show OwnB w6 Z.heap.size v6 (pad m) from OwnB.app hap); have HB6 := Lib.hid (show Below Z.heap.size Z w6 from (HB4.out.trans (HB5.out.mono HB4.out.size)).trans (hap.below (HO4.out.next HB5.out) (Nat.le_trans HB4.out.size HB5.out.size))); clear hap)
        | (go_at_call 42; (refine (rconst_c _).mono ?_); rintro e wk ⟨rfl, rfl⟩))
      have hpl := pad_len m
      have hp64 := pad_64 m
      obtain ⟨gp, kp, rest, rfl, hgp, hbp, hkp, hkp2, hrest⟩ := HO6.out.open_ (by intro h0; have := congrArg List.length h0; rw [List.length_nil] at this; omega)
      obtain ⟨nb, hnb⟩ : ∃ nb, nb = (pad m).length / 64 := ⟨_, rfl⟩
      have hpn : (pad m).length = 64 * nb := by omega
      have hnbl : nb ≤ 1000 := by have := zs_lt m.length; have := HLEN.out; omega
      obtain ⟨Y, hY'⟩ : ∃ Y, Y = (w6.alloc (Obj.cells #[Value.int .u32 1779033703, Value.int .u32 3144134277, Value.int .u32 1013904242, Value.int .u32 2773480762, Value.int .u32 1359893119, Value.int .u32 2600822924, Value.int .u32 528734635, Value.int .u32 1541459225] 69)).alloc (Obj.cells (vw kc) 69) := ⟨_, rfl⟩
      have hY : Y = (w6.alloc (Obj.cells (vw h0) 69)).alloc (Obj.cells (vw kc) 69) := hY'
      have h6y : Below w6.heap.size w6 Y := by rw [hY]; exact ((Below.refl _ _).alloc (Nat.le_refl _) _).alloc (by simp) _
      have hbh : Blk Y w6.heap.size 69 (vw h0) := by rw [hY]; exact (Blk.new _ _ _).alloc _
      have hbk : Blk Y (w6.heap.size + 1) 69 (vw kc) := by
        have h1 := Blk.new (w6.alloc (Obj.cells (vw h0) 69)) 69 (vw kc)
        rw [show (w6.alloc (Obj.cells (vw h0) 69)).heap.size = w6.heap.size + 1 by simp] at h1
        rw [hY]; exact h1
      have HPB := Lib.hid (hbp.below h6y hbp.lt)
      have HYB := Lib.hid (show Below w.heap.size w Y from ((HZ.out.trans (HB6.out.mono HZ.out.size))).trans (h6y.mono (Nat.le_trans HZ.out.size HB6.out.size)))
      have HYZ := Lib.hid (show Below Z.heap.size Z Y from HB6.out.trans (h6y.mono HB6.out.size))
      have HPN := Lib.hid hpn
      have HPD := Lib.hid (show ∀ c ∈ pad m, c < 256 from pad_lt HML.out)
      obtain ⟨gk, hgk⟩ : ∃ gk, gk = w6.heap.size + 1 := ⟨_, rfl⟩
      rw [← hgk] at hbk
      have HKB := Lib.hid hbk
      have HHB := Lib.hid hbh
      obtain ⟨gh, hgh⟩ : ∃ gh, gh = w6.heap.size := ⟨_, rfl⟩
      rw [hpn] at hkp ⊢
      rw [← hY', ← hgk]
      rw [← hgh] at HHB ⊢
      have hgpl : gp < Y.heap.size := HPB.out.lt
      have hgkl : gk < Y.heap.size := HKB.out.lt
      clear hY hY' hgk hgh hbk hbh h6y hpn hp64 hpl hnb hbp HO4 HB4 HR5 HB5 HO6 HB6 HR HRZ
      obtain ⟨F, hF⟩ : ∃ F, F = fld (pad m) := ⟨_, rfl⟩
      have HF0 := Lib.hid (show Blk Y gh 69 (vw (F 0)) by rw [hF]; exact HHB.out)
      have HF8 := Lib.hid (show ∀ j, (F j).length = 8 by rw [hF]; exact fld_len _)
      have HFT := Lib.hid (show ∀ j, ∀ c ∈ F j, c < 4294967296 by rw [hF]; exact fld_lt _)
      have HFS := Lib.hid (show ∀ j, F (j + 1) = blk (((pad m).drop (64 * j)).take 64) (F j) by rw [hF]; exact fun j => fld_next _ j)
      have HSH := Lib.hid (show sha m = (F nb).flatMap fun w => high w 4 by rw [hF]; unfold sha; rw [HPN.out, show 64 * nb / 64 = nb by omega])
      clear hF HHB
      refine loop2 _ Y gp nb kp gk gh (pad m) rest F _ _ _ _ _ _ _ _ _ _ _ _ _ _ _ _ _ _ _ _ _ _ _ _ _ _ _ _ _ _ _ _ _ _ _ _ _ _ _ _ _ _ _ _ _ _ _ _ _ _ _ _ _ _ _ _ _ _ _ _ _ _ _ _ _ _ _ _ _ _ _ _ _ _ _ _ _ _ _ _ _ _ _ _ _ _ _ _ _ _ _ _ _ _ _ _ _ _ _ _ _ _ _ _ _ _ _ _ _ _ _ _ _ _ _ _ _ _ _ _ _ _ _ _ _ _ _ _ _ _ _ _ _ _ _ _ _ _ _ _ _ _ _ _ _ _ _ _ _ _ _ _ _ _ _ _ _ _ _ _ _ _ _ _ _ _ _ _ _ _ _ _ _ _ _ _ _ _ _ _ _ _ _ _ _ _ _ _ _ _ _ _ _ _ _ _ _ _ _ _ _ _ _ _ _ _ _ _ _ _ _ _ _ _ _ _ _ _ _ _ _ _ _ _ _ _ _ _ _ _ _ _ _ _ _ _ _ _ _ _ _ _ _ _ _ _ _ _ _ _ _ _ _ _ _ _ _ _ _ _ _ _ _ _ _ _ _ _ _ _ _ _ _ _ _ _ _ _ _ _ _ hnbl hkp hkp2 HPD HPN HPB HKB HF0 HF8 HFT HFS rfl ?_
      intro x6 x7 x8 x9 x10 x11 x12 x13 x14 x15 x16 x17 x18 x19 x20 x21 x22 x23 x48 x49 x50 x51 x52 x53 x54 x55 x56 x57 x58 x59 x60 x61 x62 x63 x64 x65 x66 x67 x68 x69 x70 x71 x72 x73 x74 x75 x76 x77 x78 x79 x80 x81 x82 x83 x84 x85 x86 x87 x88 x89 x90 x91 x92 x93 x94 x95 x96 x97 x98 x99 x100 x101 x102 x103 x104 x105 x106 x107 x108 x109 x110 x111 x112 x113 x114 x115 x116 x117 x118 x119 x120 x121 x122 x123 x124 x125 x126 x127 x128 x129 x130 x131 x132 x133 x134 x135 x136 x137 x138 x139 x140 x141 x142 x143 x144 x145 x146 x147 x148 x149 x150 x151 x152 x153 x154 x155 x156 x157 x158 x159 x160 x161 x162 x163 x164 x165 x166 x167 x168 x169 x170 x171 x172 x173 x174 x175 x176 x177 x178 x179 x180 x181 x182 x183 x184 x185 x186 x187 x188 x189 x190 x191 x192 x193 x194 x195 x196 x197 x198 x199 x200 x201 x202 x203 x204 x205 x206 x207 x208 x209 x210 x211 x212 x213 x214 x215 x216 x217 x218 x219 x220 x221 x222 x223 x224 x225 x226 x227 x228 x229 x230 x231 x232 x233 x234 x235 x236 x237 x238 x239 x240 x241 x242 x243 x244 x245 x246 x247 x248 x249 x250 x251 x252 x253 x254 x255 x256 x257 x258 x259 x260 x261 x262 x263 x264 x265 x266 g ws hbl hb
      have HBG := Lib.hid hbl
      have HBW := Lib.hid hb
      have HZS0 := Lib.hid (show Below Z.heap.size Z ws from HYZ.out.trans (hb.mono HYZ.out.size))
      have HL8 := Lib.hid (HF8.out nb)
      have HT8 := Lib.hid (HFT.out nb)
      have HLM := Lib.hid (sha_len m)
      clear hbl hb HF0 HF8 HFT HFS HPD HPB HKB HPN hnbl hkp hkp2 hgpl hgkl HYB
      generalize F nb = H at *
      have zf := zero_sum
      have zs1 : zSum.size = 32 := by rfl
      have zs2 : ¬ zSum = #[] := by intro h; have := congrArg Array.size h; rw [zs1] at this; cases this
      go_wp2_with fail
      obtain ⟨Y4, hY4⟩ : ∃ Y4, Y4 = ws.alloc (Obj.cells zSum 26) := ⟨_, rfl⟩
      have HO := Lib.hid (show OutW Z Y4 g ws.heap.size H (sha m) 0 by
        rw [hY4]
        exact ⟨HZS0.out.alloc HZS0.out.size _, HBG.out.alloc _, by rw [outZ_zero (by rw [sha_len])]; exact Blk.new _ _ _⟩)
      rw [← hY4]
      clear zf zs1 zs2 hY4
      have hgl : g ≠ ws.heap.size := Nat.ne_of_lt HBG.out.lt
      have hzl := HZS0.out.size
      generalize ws.heap.size = O at *
      refine loop10 _ Y4 Z g O H (sha m) _ _ _ _ _ _ _ _ _ _ _ _ _ _ _ _ _ _ _ _ _ _ _ _ _ _ _ _ _ _ _ _ _ _ _ _ _ _ _ _ _ _ _ _ _ _ _ _ _ _ _ _ _ _ _ _ _ _ _ _ _ _ _ _ _ _ _ _ _ _ _ _ _ _ _ _ _ _ _ _ _ _ _ _ _ _ _ _ _ _ _ _ _ _ _ _ _ _ _ _ _ _ _ _ _ _ _ _ _ _ _ _ _ _ _ _ _ _ _ _ _ _ _ _ _ _ _ _ _ _ _ _ _ _ _ _ _ _ _ _ _ _ _ _ _ _ _ _ _ _ _ _ _ _ _ _ _ _ _ _ _ _ _ _ _ _ _ _ _ _ _ _ _ _ _ _ _ _ _ _ _ _ _ _ _ _ _ _ _ _ _ _ _ _ _ _ _ _ _ _ _ _ _ _ _ _ _ _ _ _ _ _ _ _ _ _ _ _ _ _ _ _ _ _ _ _ _ _ _ _ _ _ _ _ _ _ _ _ _ _ _ _ _ _ _ _ _ _ _ _ _ _ _ _ _ _ _ _ _ _ _ _ _ _ _ _ _ _ _ _ _ _ _ _ _ _ _ _ _ _ _ _ hgl hzl HO HL8 HT8 HSH HLM ?_
      intro y25 y267 y268 y269 y270 y271 y272 y273 y274 y275 y276 y277 y278 y279 y280 y281 y282 y283 wf hs
      have h3 := hs.hO
      rw [show (32 : Nat) = (sha m).length from (sha_len m).symm, outZ_end] at h3
      have HO3 := Lib.hid h3
      have HZS := Lib.hid (H2.out.below hs.bel H2.out.lt)
      have HBF := Lib.hid hs.bel
      have HIS := Lib.hid (show (Tryd.prog.info? 26).map (·.size) = some (vb (sha m)).size by rw [vb_size, sha_len]; kernel_rfl)
      clear h3 hs HO hgl hzl HSH HLM HL8 HT8
      go_wp2_with (first
        | (refine wpList_load_row rfl 26 (.tmp 24) rfl O rfl 26 (vb (sha m)) (0, 0) _ (by exact HO3.out) Tryd.underlying26 rfl HIS.out ?_)
        | (refine wpList_store_rowTo rfl 26 (.tmp 2) (.tmp 284) rfl rfl w.heap.size (vb (sha m)) rfl rfl 26 zSum (by exact HZS.out) HIS.out (by rw [vb_size, sha_len]; rfl) (vb_one _) ?_))
      refine bodyPost_ret (results_cell_row rfl _ _ w.heap.size 26 (vb (sha m)) (0, 0) _ rfl (setRow_heap _ _ zSum _ 26 (0, 0) HZS.out) Tryd.underlying26 rfl HIS.out) rfl ?_
      exact ⟨rfl, (HZ.out.trans (HBF.out.mono HZ.out.size)).trans ⟨rfl, rfl, rfl, by simp [World.setRow], fun i hi => setRow_other _ _ i _ (by omega)⟩⟩
end Go.Proofs.YthlmlmkabjppeaaDoor
