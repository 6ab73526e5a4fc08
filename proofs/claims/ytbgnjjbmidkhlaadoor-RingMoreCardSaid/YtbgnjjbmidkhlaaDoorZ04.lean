/- Parts, one behind the other: Rl10 Rsm3 Ss1 Ss2 Held Gro LouG Rc Rn0 Rn1 Rn2. -/
import Derived.Test.YtbgnjjbmidkhlaaDoorZ03
import Derived.StillTailTactics
import Derived.OrdersHeld
import Derived.Sort.Grow
import Derived.Deep.MidRow
import Derived.BigQuiet
import Derived.Great.BuildSlice
import Derived.DataElems
import Derived.WalkLawsBesides
import Derived.Shelf.SlSortCmp.WholeK
import Derived.Shelf.SlSortCmp.NoneTotal
/- Contract: the document's fingerprint: its bytes. -/
namespace Go.Proofs.YtbgnjjbmidkhlaaDoor
set_option linter.unusedVariables false
set_option linter.unusedSimpArgs false
open Go.RowKit
set_option linter.unusedVariables false
set_option linter.unusedSimpArgs false
structure OutW (Z w : World) (B O : Nat) (H l : List Nat) (k : Nat) : Prop where
  bel : Below Z.heap.size Z w
  hB : Blk w B 61 (vw H)
  hO : Blk w O 41 (vb (outZ l k))
theorem OutW.next {Z w w' : World} {B O : Nat} {H l : List Nat} {k : Nat} (h : OutW Z w B O H l k) (hb : Below w.heap.size w w') : OutW Z w' B O H l k := ⟨h.bel.trans (hb.mono h.bel.size), h.hB.below hb h.hB.lt, h.hO.below hb h.hO.lt⟩
theorem high4_at (y i : Nat) (h : i < 4) : (high y 4).getD i 0 = y / 2 ^ (24 - 8 * i) % 256 := by
  have := flat4_at [y] i (by simp; omega)
  rw [show i / 4 = 0 by omega, show i % 4 = i by omega] at this
  simpa using this
set_option maxRecDepth 1000000 in
set_option maxHeartbeats 40000000 in
theorem loop10 (Q : Exit → Act → World → Prop) (wq : World) (Z : World) (g O : Nat) (H M : List Nat) (c0 c1 c2 c3 c5 c6 c7 c8 c9 c10 c11 c12 c13 c14 c15 c16 c17 c18 c19 c20 c21 c22 c23 c26 c27 c28 c29 c30 c31 c32 c33 c34 c35 c36 c37 c38 c39 c40 c41 c42 c43 c44 c45 c46 c47 c48 c49 c50 c51 c52 c53 c54 c55 c56 c57 c58 c59 c60 c61 c62 c63 c64 c65 c66 c67 c68 c69 c70 c71 c72 c73 c74 c75 c76 c77 c78 c79 c80 c81 c82 c83 c84 c85 c86 c87 c88 c89 c90 c91 c92 c93 c94 c95 c96 c97 c98 c99 c100 c101 c102 c103 c104 c105 c106 c107 c108 c109 c110 c111 c112 c113 c114 c115 c116 c117 c118 c119 c120 c121 c122 c123 c124 c125 c126 c127 c128 c129 c130 c131 c132 c133 c134 c135 c136 c137 c138 c139 c140 c141 c142 c143 c144 c145 c146 c147 c148 c149 c150 c151 c152 c153 c154 c155 c156 c157 c158 c159 c160 c161 c162 c163 c164 c165 c166 c167 c168 c169 c170 c171 c172 c173 c174 c175 c176 c177 c178 c179 c180 c181 c182 c183 c184 c185 c186 c187 c188 c189 c190 c191 c192 c193 c194 c195 c196 c197 c198 c199 c200 c201 c202 c203 c204 c205 c206 c207 c208 c209 c210 c211 c212 c213 c214 c215 c216 c217 c218 c219 c220 c221 c222 c223 c224 c225 c226 c227 c228 c229 c230 c231 c232 c233 c234 c235 c236 c237 c238 c239 c240 c241 c242 c243 c244 c245 c246 c247 c248 c249 c250 c251 c252 c253 c254 c255 c256 c257 c258 c259 c260 c261 c262 c263 c264 c265 c266 c267 c268 c269 c270 c271 c272 c273 c274 c275 c276 c277 c278 c279 c280 c281 c282 c283 c284 : Value)
    (hgO : g ≠ O) (hzO : Z.heap.size ≤ O) (HO : Hid (OutW Z wq g O H M 0)) (HFL : Hid (H.length = 8)) (HFT : Hid (∀ c ∈ H, c < 4294967296)) (HM : Hid (M = H.flatMap fun w => high w 4)) (HML : Hid (M.length = 32))
    (hexit : ∀ (u25 u267 u268 u269 u270 u271 u272 u273 u274 u275 u276 u277 u278 u279 u280 u281 u282 u283 : Value) (ws : World), OutW Z ws g O H M 32 → Q (.exit 10) ⟨(c0 :: c1 :: c2 :: c3 :: (.slice (some ⟨g, 0, none⟩) 8 8) :: c5 :: c6 :: c7 :: c8 :: c9 :: c10 :: c11 :: c12 :: c13 :: c14 :: c15 :: c16 :: c17 :: c18 :: c19 :: c20 :: c21 :: c22 :: c23 :: (.pointer (some ⟨O, 0, none⟩)) :: u25 :: c26 :: c27 :: c28 :: c29 :: c30 :: c31 :: c32 :: c33 :: c34 :: c35 :: c36 :: c37 :: c38 :: c39 :: c40 :: c41 :: c42 :: c43 :: c44 :: c45 :: c46 :: c47 :: c48 :: c49 :: c50 :: c51 :: c52 :: c53 :: c54 :: c55 :: c56 :: c57 :: c58 :: c59 :: c60 :: c61 :: c62 :: c63 :: c64 :: c65 :: c66 :: c67 :: c68 :: c69 :: c70 :: c71 :: c72 :: c73 :: c74 :: c75 :: c76 :: c77 :: c78 :: c79 :: c80 :: c81 :: c82 :: c83 :: c84 :: c85 :: c86 :: c87 :: c88 :: c89 :: c90 :: c91 :: c92 :: c93 :: c94 :: c95 :: c96 :: c97 :: c98 :: c99 :: c100 :: c101 :: c102 :: c103 :: c104 :: c105 :: c106 :: c107 :: c108 :: c109 :: c110 :: c111 :: c112 :: c113 :: c114 :: c115 :: c116 :: c117 :: c118 :: c119 :: c120 :: c121 :: c122 :: c123 :: c124 :: c125 :: c126 :: c127 :: c128 :: c129 :: c130 :: c131 :: c132 :: c133 :: c134 :: c135 :: c136 :: c137 :: c138 :: c139 :: c140 :: c141 :: c142 :: c143 :: c144 :: c145 :: c146 :: c147 :: c148 :: c149 :: c150 :: c151 :: c152 :: c153 :: c154 :: c155 :: c156 :: c157 :: c158 :: c159 :: c160 :: c161 :: c162 :: c163 :: c164 :: c165 :: c166 :: c167 :: c168 :: c169 :: c170 :: c171 :: c172 :: c173 :: c174 :: c175 :: c176 :: c177 :: c178 :: c179 :: c180 :: c181 :: c182 :: c183 :: c184 :: c185 :: c186 :: c187 :: c188 :: c189 :: c190 :: c191 :: c192 :: c193 :: c194 :: c195 :: c196 :: c197 :: c198 :: c199 :: c200 :: c201 :: c202 :: c203 :: c204 :: c205 :: c206 :: c207 :: c208 :: c209 :: c210 :: c211 :: c212 :: c213 :: c214 :: c215 :: c216 :: c217 :: c218 :: c219 :: c220 :: c221 :: c222 :: c223 :: c224 :: c225 :: c226 :: c227 :: c228 :: c229 :: c230 :: c231 :: c232 :: c233 :: c234 :: c235 :: c236 :: c237 :: c238 :: c239 :: c240 :: c241 :: c242 :: c243 :: c244 :: c245 :: c246 :: c247 :: c248 :: c249 :: c250 :: c251 :: c252 :: c253 :: c254 :: c255 :: c256 :: c257 :: c258 :: c259 :: c260 :: c261 :: c262 :: c263 :: c264 :: c265 :: c266 :: u267 :: u268 :: u269 :: u270 :: u271 :: u272 :: u273 :: u274 :: u275 :: u276 :: u277 :: u278 :: u279 :: u280 :: u281 :: u282 :: u283 :: c284 :: []).toArray, []⟩ ws) :
    Code.wp Tryd.prog (lp 10) Q ⟨(c0 :: c1 :: c2 :: c3 :: (.slice (some ⟨g, 0, none⟩) 8 8) :: c5 :: c6 :: c7 :: c8 :: c9 :: c10 :: c11 :: c12 :: c13 :: c14 :: c15 :: c16 :: c17 :: c18 :: c19 :: c20 :: c21 :: c22 :: c23 :: (.pointer (some ⟨O, 0, none⟩)) :: (.int .i64 0) :: c26 :: c27 :: c28 :: c29 :: c30 :: c31 :: c32 :: c33 :: c34 :: c35 :: c36 :: c37 :: c38 :: c39 :: c40 :: c41 :: c42 :: c43 :: c44 :: c45 :: c46 :: c47 :: c48 :: c49 :: c50 :: c51 :: c52 :: c53 :: c54 :: c55 :: c56 :: c57 :: c58 :: c59 :: c60 :: c61 :: c62 :: c63 :: c64 :: c65 :: c66 :: c67 :: c68 :: c69 :: c70 :: c71 :: c72 :: c73 :: c74 :: c75 :: c76 :: c77 :: c78 :: c79 :: c80 :: c81 :: c82 :: c83 :: c84 :: c85 :: c86 :: c87 :: c88 :: c89 :: c90 :: c91 :: c92 :: c93 :: c94 :: c95 :: c96 :: c97 :: c98 :: c99 :: c100 :: c101 :: c102 :: c103 :: c104 :: c105 :: c106 :: c107 :: c108 :: c109 :: c110 :: c111 :: c112 :: c113 :: c114 :: c115 :: c116 :: c117 :: c118 :: c119 :: c120 :: c121 :: c122 :: c123 :: c124 :: c125 :: c126 :: c127 :: c128 :: c129 :: c130 :: c131 :: c132 :: c133 :: c134 :: c135 :: c136 :: c137 :: c138 :: c139 :: c140 :: c141 :: c142 :: c143 :: c144 :: c145 :: c146 :: c147 :: c148 :: c149 :: c150 :: c151 :: c152 :: c153 :: c154 :: c155 :: c156 :: c157 :: c158 :: c159 :: c160 :: c161 :: c162 :: c163 :: c164 :: c165 :: c166 :: c167 :: c168 :: c169 :: c170 :: c171 :: c172 :: c173 :: c174 :: c175 :: c176 :: c177 :: c178 :: c179 :: c180 :: c181 :: c182 :: c183 :: c184 :: c185 :: c186 :: c187 :: c188 :: c189 :: c190 :: c191 :: c192 :: c193 :: c194 :: c195 :: c196 :: c197 :: c198 :: c199 :: c200 :: c201 :: c202 :: c203 :: c204 :: c205 :: c206 :: c207 :: c208 :: c209 :: c210 :: c211 :: c212 :: c213 :: c214 :: c215 :: c216 :: c217 :: c218 :: c219 :: c220 :: c221 :: c222 :: c223 :: c224 :: c225 :: c226 :: c227 :: c228 :: c229 :: c230 :: c231 :: c232 :: c233 :: c234 :: c235 :: c236 :: c237 :: c238 :: c239 :: c240 :: c241 :: c242 :: c243 :: c244 :: c245 :: c246 :: c247 :: c248 :: c249 :: c250 :: c251 :: c252 :: c253 :: c254 :: c255 :: c256 :: c257 :: c258 :: c259 :: c260 :: c261 :: c262 :: c263 :: c264 :: c265 :: c266 :: c267 :: c268 :: c269 :: c270 :: c271 :: c272 :: c273 :: c274 :: c275 :: c276 :: c277 :: c278 :: c279 :: c280 :: c281 :: c282 :: c283 :: c284 :: []).toArray, []⟩ wq := by
  conv => arg 2; whnf
  go_loopw [25] (fun i wr => ∃ k : Nat, k ≤ 32 ∧ i = .int .i64 (k : Int) ∧ OutW Z wr g O H M k) (fun i _ => 32 - (intOf i).toNat)
  case atStart => exact ⟨0, by omega, rfl, HO.out⟩
  case round =>
    rename World => wo
    obtain ⟨k, hk, rfl, hs⟩ := hrel
    have HK := Lib.hid hs
    clear hs HO
    by_cases hlt : k < 32
    · have ec := HK.out.hB.cell (k / 4)
      rw [vw_at' _ _ (by rw [HFL.out]; omega)] at ec
      have hl := HFT.out _ (getD_mem H (k / 4) (by rw [HFL.out]; omega))
      have hf4 := flat4_at H k (by rw [HFL.out]; omega)
      rw [← HM.out] at hf4
      have HF4 := Lib.hid hf4
      clear hf4
      have d4 : (k : Int).tdiv 4 = ((k / 4 : Nat) : Int) := by rw [Int.tdiv_eq_ediv_of_nonneg (by omega)]; omega
      have m4 : (k : Int).tmod 4 = ((k % 4 : Nat) : Int) := by rw [Int.tmod_eq_emod_of_nonneg (by omega)]; omega
      have b4 : ((k / 4 : Nat) : Int) < 8 := by omega
      have b5 : ((k % 4 : Nat) : Int) < 4 := by omega
      generalize hy : H.getD (k / 4) 0 = y at *
      have ey : IntKind.u64.wrap (y : Int) = (y : Int) := by simp [IntKind.wrap, IntKind.signed, IntKind.bits]; omega
      have HHI := Lib.hid (fun W => rhigh_c y 4 W (by omega) (.inl rfl))
      go_wp2_with (go_at_call 50; (refine (HHI.out _).mono ?_); rintro e w5 ⟨v5, rfl, ho, hb⟩; obtain ⟨A5, k5, rfl, _, _, hr5⟩ := ho.rd; rw [high_len]; obtain ⟨ad5, rfl, _, hc5⟩ := hr5 (by rw [show byt (high y 4) = List.map (fun (n : Nat) => Value.int .u8 (n : Int)) (high y 4) from rfl]; intro h0; have := congrArg List.length h0; rw [List.length_map, high_len] at this; cases this); have hcc := hc5 (k % 4) _ (byt_at (by rw [high_len]; omega)); rw [high4_at y (k % 4) (by omega), ← HF4.out] at hcc; have HO5 := Lib.hid (show OutW Z w5 g O H M k from HK.out.next hb); have ef := HO5.out.hO.free k; have eo := HO5.out.hO.cell k; rw [vb_at _ k (by rw [outZ_len _ _ (by rw [HML.out]; omega), HML.out]; exact hlt)] at eo; clear ho hb hr5 hc5)
      refine ⟨⟨k + 1, by omega, by congr 1, ?_⟩, ?_⟩
      · rw [← List.getD_eq_getElem?_getD]
        refine ⟨HO5.out.bel.setCell hzO _, HO5.out.hB.far hgO _, ?_⟩
        rw [← outZ_set _ _ (by rw [HML.out]; exact hlt), ← vb_set]
        exact HO5.out.hO.set_ _ _
      · simp only [intOf]; omega
    · obtain rfl : k = 32 := by omega
      go_wp2_with fail
      exact HK.out
end Go.Proofs.YtbgnjjbmidkhlaaDoor
/- Contract: the document's fingerprint. -/
namespace Go.Proofs.YtbgnjjbmidkhlaaDoor
set_option linter.unusedVariables false
set_option linter.unusedSimpArgs false
open Go.RowKit
set_option linter.unusedVariables false
set_option linter.unusedSimpArgs false
theorem fld_next (m : List Nat) (n : Nat) : fld m (n + 1) = blk ((m.drop (64 * n)).take 64) (fld m n) := rfl
set_option maxRecDepth 100000 in
set_option maxHeartbeats 40000000 in
theorem rsum_c (B : Nat) (A : Option Addr) (ca : Nat) (m : List Nat) (w : World) (hr : Rd w B A (byt m)) (hB : B ≤ w.heap.size) (hml : ∀ c ∈ m, c < 256) (hlen : m.length ≤ 10000) :
    Calls Tryd.prog 32 #[.slice A m.length ca] w fun e w' => e = .returned (.agg (vb (sha m))) ∧ Below w.heap.size w w' := by
  obtain ⟨i0, hi, hz0, hz1, hz2⟩ := info_parts byteInfo
  obtain ⟨i4, hi4, hy0, hy1, hy2⟩ := info_parts wordInfo
  have HR := Lib.hid hr
  have HML := Lib.hid hml
  have HLEN := Lib.hid hlen
  clear hr hml
  go_enter Tryd.func32, Tryd.ntmps32
  have zf := zero_sum
  have zs1 : zSum.size = 32 := by rfl
  have zs2 : ¬ zSum = #[] := by intro h; have := congrArg Array.size h; rw [zs1] at this; cases this
  go_upto_region 1 with fail
  obtain ⟨Z, hZ⟩ : ∃ Z, Z = w.alloc (Obj.cells zSum 41) := ⟨_, rfl⟩
  have hbz : Below w.heap.size w Z := by rw [hZ]; exact (Below.refl _ _).alloc (Nat.le_refl _) _
  have h2 : Blk Z w.heap.size 41 zSum := by rw [hZ]; exact Blk.new _ _ _
  rw [← hZ]
  clear hZ zf zs1 zs2
  have HZ := Lib.hid hbz
  have H2 := Lib.hid h2
  have HRZ := Lib.hid ((HR.out.below (hbz.mono hB)).more (Nat.le_trans hB hbz.size))
  clear hbz h2
  go_wp2_with (first
    | (at_builtin; refine wpList_app _ rfl (.tmp 26) (.tmp 27) _ rfl Z.heap.size 5 i0 (.int .u8 0) 1 1 Tryd.underlying36 hi hz0 hz1 hz2 rfl (by decide) _ 0 [] rfl (by exact OwnB.new _ _ [] (Nat.le_refl _) (by simp [maxLen])) Z.heap.size A m.length ca (byt m) rfl (by simp [byt_len]) (by exact HRZ.out.ext ((Below.refl _ _).alloc (Nat.le_refl _) _)) (byt_one m) (by omega) (by omega) (by simp) ?_; intro v1 w1 hap; have ho1 : OwnB w1 Z.heap.size v1 m := (by have := hap.own; simpa [OwnB] using this); have hb1 : Below Z.heap.size Z w1 := ((Below.refl _ _).alloc (Nat.le_refl _) _).trans (hap.below (by exact OwnB.new _ _ [] (Nat.le_refl _) (by simp [maxLen])) (by simp)); obtain ⟨A1, k1, rfl, _, _, _⟩ := ho1.rd; have HO1 := Lib.hid ho1; have HB1 := Lib.hid hb1; clear hap ho1 hb1)
    | (at_builtin; refine wpList_app _ rfl (.tmp 29) (.tmp 30) _ rfl Z.heap.size 5 i0 (.int .u8 0) 1 1 Tryd.underlying36 hi hz0 hz1 hz2 rfl (by decide) _ _ _ rfl (HO1.out.alloc _) _ _ 1 1 [.int .u8 (128 : Nat)] rfl rfl (by exact rd_one _ _ _) (byt_one [128]) (by omega) (by omega) (by have := HB1.out.size; simp; omega) ?_; intro v3 w3 hap; have HO3 := Lib.hid (show OwnB w3 Z.heap.size v3 (padZ m 0) from by have h1 := OwnB.snoc hap; simpa [padZ] using h1); have HB3 := Lib.hid (show Below Z.heap.size Z w3 from (HB1.out.alloc HB1.out.size _).trans (hap.below (HO1.out.alloc _) (by have := HB1.out.size; simp; omega))); clear hap))
  go_loopw [3] (fun v wr => ∃ j : Nat, j ≤ zs m.length ∧ OwnB wr Z.heap.size v (padZ m j) ∧ Below Z.heap.size Z wr) (fun v _ => m.length + 1 + zs m.length - lenOf v)
  case atStart => exact ⟨0, Nat.zero_le _, HO3.out, HB3.out⟩
  case round =>
    rename World => wr
    obtain ⟨j, hj, ho, hb⟩ := hrel
    have hzl := zs_lt m.length
    obtain ⟨A4, k4, rfl, _, _, _⟩ := ho.rd
    have HO4 := Lib.hid ho
    have HB4 := Lib.hid hb
    have hL := padZ_len m j
    have HL4 := Lib.hid hL
    have h63 : ((padZ m j).length : Int).tmod 64 = ((padZ m j).length : Int) % 64 := Int.tmod_eq_emod_of_nonneg (by omega)
    clear ho hb HO1 HB1 HO3 HB3
    by_cases hlt : j < zs m.length
    · have hne := zs_at m.length j hlt
      rw [← hL] at hne
      have tne : ((((padZ m j).length : Int) % 64) != 56) = true := by rw [bne_iff_ne]; exact hne
      clear hne hL
      have HSU := Lib.hid (padZ_succ m j)
      have HPL := Lib.hid (padZ_len m (j + 1))
      go_wp2_with (at_builtin; refine wpList_app _ rfl (.tmp 36) (.tmp 37) _ rfl Z.heap.size 5 i0 (.int .u8 0) 1 1 Tryd.underlying36 hi hz0 hz1 hz2 rfl (by decide) _ _ _ rfl (HO4.out.alloc _) _ _ 1 1 [.int .u8 (0 : Nat)] rfl rfl (by exact rd_one _ _ _) (byt_one [0]) (by have := HL4.out; have := HLEN.out; omega) (by have := HL4.out; have := HLEN.out; omega) (by have := HB4.out.size; simp; omega) ?_; intro v5 w5 hap; have HO5 := Lib.hid (show OwnB w5 Z.heap.size v5 (padZ m (j + 1)) from by rw [HSU.out]; exact OwnB.snoc hap); have HB5 := Lib.hid (show Below Z.heap.size Z w5 from (HB4.out.alloc HB4.out.size _).trans (hap.below (HO4.out.alloc _) (by have := HB4.out.size; simp; omega))); clear hap)
      refine ⟨⟨j + 1, by omega, HO5.out, HB5.out⟩, ?_⟩
      have := HO5.out.lenOf; have := HPL.out; have := HO4.out.lenOf; have := HL4.out
      omega
    · obtain rfl : j = zs m.length := by omega
      have hend := zs_end m.length
      rw [← hL] at hend
      have tne : ((((padZ m (zs m.length)).length : Int) % 64) != 56) = false := by rw [bne_eq_false_iff_eq]; exact hend
      clear hend hL
      have esz : IntKind.u64.wrap ((m.length : Int) * 8) = ((8 * m.length : Nat) : Int) := by simp [IntKind.wrap, IntKind.signed, IntKind.bits]; omega
      have ec : IntKind.u64.wrap (m.length : Int) = (m.length : Int) := by simp [IntKind.wrap, IntKind.signed, IntKind.bits]; omega
      have HNL := Lib.hid (show (padZ m (zs m.length)).length ≤ 20000 by have := HL4.out; have := HLEN.out; omega)
      have HHI := Lib.hid (fun W => rhigh_c (8 * m.length) 8 W (by have := HLEN.out; omega) (.inr rfl))
      clear hlen
      go_wp2_with (first
        | (go_at_call 50; (refine (HHI.out _).mono ?_); rintro e w5 ⟨v5, rfl, ho, hb⟩; obtain ⟨A5, k5, rfl, _, _, hr5⟩ := ho.rd; have HR5 := Lib.hid hr5; have HB5 := Lib.hid hb; clear ho hb hr5)
        | (at_builtin; refine wpList_app _ rfl (.tmp 39) (.tmp 44) _ rfl Z.heap.size 5 i0 (.int .u8 0) 1 1 Tryd.underlying36 hi hz0 hz1 hz2 rfl (by decide) _ _ _ rfl (HO4.out.next HB5.out) w5.heap.size A5 (high (8 * m.length) 8).length k5 (byt (high (8 * m.length) 8)) rfl (by simp [byt_len]) HR5.out (byt_one _) (by have := HNL.out; rw [high_len]; omega) (by have := HNL.out; rw [high_len]; omega) (Nat.le_trans HB4.out.size HB5.out.size) ?_; intro v6 w6 hap; have HO6 := Lib.hid (show OwnB w6 Z.heap.size v6 (pad m) from OwnB.app hap); have HB6 := Lib.hid (show Below Z.heap.size Z w6 from (HB4.out.trans (HB5.out.mono HB4.out.size)).trans (hap.below (HO4.out.next HB5.out) (Nat.le_trans HB4.out.size HB5.out.size))); clear hap)
        | (go_at_call 51; (refine (rconst_c _).mono ?_); rintro e wk ⟨rfl, rfl⟩))
      have hpl := pad_len m
      have hp64 := pad_64 m
      obtain ⟨gp, kp, rest, rfl, hgp, hbp, hkp, hkp2, hrest⟩ := HO6.out.open_ (by intro h0; have := congrArg List.length h0; rw [List.length_nil] at this; omega)
      obtain ⟨nb, hnb⟩ : ∃ nb, nb = (pad m).length / 64 := ⟨_, rfl⟩
      have hpn : (pad m).length = 64 * nb := by omega
      have hnbl : nb ≤ 1000 := by have := zs_lt m.length; have := HLEN.out; omega
      obtain ⟨Y, hY'⟩ : ∃ Y, Y = (w6.alloc (Obj.cells #[Value.int .u32 1779033703, Value.int .u32 3144134277, Value.int .u32 1013904242, Value.int .u32 2773480762, Value.int .u32 1359893119, Value.int .u32 2600822924, Value.int .u32 528734635, Value.int .u32 1541459225] 61)).alloc (Obj.cells (vw kc) 61) := ⟨_, rfl⟩
      have hY : Y = (w6.alloc (Obj.cells (vw h0) 61)).alloc (Obj.cells (vw kc) 61) := hY'
      have h6y : Below w6.heap.size w6 Y := by rw [hY]; exact ((Below.refl _ _).alloc (Nat.le_refl _) _).alloc (by simp) _
      have hbh : Blk Y w6.heap.size 61 (vw h0) := by rw [hY]; exact (Blk.new _ _ _).alloc _
      have hbk : Blk Y (w6.heap.size + 1) 61 (vw kc) := by
        have h1 := Blk.new (w6.alloc (Obj.cells (vw h0) 61)) 61 (vw kc)
        rw [show (w6.alloc (Obj.cells (vw h0) 61)).heap.size = w6.heap.size + 1 by simp] at h1
        rw [hY]; exact h1
      have HPB := Lib.hid (hbp.below h6y hbp.lt)
      have HYB := Lib.hid (show Below w.heap.size w Y from ((HZ.out.trans (HB6.out.mono HZ.out.size))).trans (h6y.mono (Nat.le_trans HZ.out.size HB6.out.size)))
      have HYZ := Lib.hid (show Below Z.heap.size Z Y from HB6.out.trans (h6y.mono HB6.out.size))
      have HPN := Lib.hid hpn
      have HPD := Lib.hid (show ∀ c ∈ pad m, c < 256 from pad_lt HML.out)
      obtain ⟨gk, hgk⟩ : ∃ gk, gk = w6.heap.size + 1 := ⟨_, rfl⟩
      rw [← hgk] at hbk
      have HKB := Lib.hid hbk
      have HHB := Lib.hid hbh
      obtain ⟨gh, hgh⟩ : ∃ gh, gh = w6.heap.size := ⟨_, rfl⟩
      rw [hpn] at hkp ⊢
      rw [← hY', ← hgk]
      rw [← hgh] at HHB ⊢
      have hgpl : gp < Y.heap.size := HPB.out.lt
      have hgkl : gk < Y.heap.size := HKB.out.lt
      clear hY hY' hgk hgh hbk hbh h6y hpn hp64 hpl hnb hbp HO4 HB4 HR5 HB5 HO6 HB6 HR HRZ
      obtain ⟨F, hF⟩ : ∃ F, F = fld (pad m) := ⟨_, rfl⟩
      have HF0 := Lib.hid (show Blk Y gh 61 (vw (F 0)) by rw [hF]; exact HHB.out)
      have HF8 := Lib.hid (show ∀ j, (F j).length = 8 by rw [hF]; exact fld_len _)
      have HFT := Lib.hid (show ∀ j, ∀ c ∈ F j, c < 4294967296 by rw [hF]; exact fld_lt _)
      have HFS := Lib.hid (show ∀ j, F (j + 1) = blk (((pad m).drop (64 * j)).take 64) (F j) by rw [hF]; exact fun j => fld_next _ j)
      have HSH := Lib.hid (show sha m = (F nb).flatMap fun w => high w 4 by rw [hF]; unfold sha; rw [HPN.out, show 64 * nb / 64 = nb by omega])
      clear hF HHB
      refine loop2 _ Y gp nb kp gk gh (pad m) rest F _ _ _ _ _ _ _ _ _ _ _ _ _ _ _ _ _ _ _ _ _ _ _ _ _ _ _ _ _ _ _ _ _ _ _ _ _ _ _ _ _ _ _ _ _ _ _ _ _ _ _ _ _ _ _ _ _ _ _ _ _ _ _ _ _ _ _ _ _ _ _ _ _ _ _ _ _ _ _ _ _ _ _ _ _ _ _ _ _ _ _ _ _ _ _ _ _ _ _ _ _ _ _ _ _ _ _ _ _ _ _ _ _ _ _ _ _ _ _ _ _ _ _ _ _ _ _ _ _ _ _ _ _ _ _ _ _ _ _ _ _ _ _ _ _ _ _ _ _ _ _ _ _ _ _ _ _ _ _ _ _ _ _ _ _ _ _ _ _ _ _ _ _ _ _ _ _ _ _ _ _ _ _ _ _ _ _ _ _ _ _ _ _ _ _ _ _ _ _ _ _ _ _ _ _ _ _ _ _ _ _ _ _ _ _ _ _ _ _ _ _ _ _ _ _ _ _ _ _ _ _ _ _ _ _ _ _ _ _ _ _ _ _ _ _ _ _ _ _ _ _ _ _ _ _ _ _ _ _ _ _ _ _ _ _ _ _ _ _ _ _ _ _ _ _ _ _ _ _ _ _ hnbl hkp hkp2 HPD HPN HPB HKB HF0 HF8 HFT HFS rfl ?_
      intro x6 x7 x8 x9 x10 x11 x12 x13 x14 x15 x16 x17 x18 x19 x20 x21 x22 x23 x48 x49 x50 x51 x52 x53 x54 x55 x56 x57 x58 x59 x60 x61 x62 x63 x64 x65 x66 x67 x68 x69 x70 x71 x72 x73 x74 x75 x76 x77 x78 x79 x80 x81 x82 x83 x84 x85 x86 x87 x88 x89 x90 x91 x92 x93 x94 x95 x96 x97 x98 x99 x100 x101 x102 x103 x104 x105 x106 x107 x108 x109 x110 x111 x112 x113 x114 x115 x116 x117 x118 x119 x120 x121 x122 x123 x124 x125 x126 x127 x128 x129 x130 x131 x132 x133 x134 x135 x136 x137 x138 x139 x140 x141 x142 x143 x144 x145 x146 x147 x148 x149 x150 x151 x152 x153 x154 x155 x156 x157 x158 x159 x160 x161 x162 x163 x164 x165 x166 x167 x168 x169 x170 x171 x172 x173 x174 x175 x176 x177 x178 x179 x180 x181 x182 x183 x184 x185 x186 x187 x188 x189 x190 x191 x192 x193 x194 x195 x196 x197 x198 x199 x200 x201 x202 x203 x204 x205 x206 x207 x208 x209 x210 x211 x212 x213 x214 x215 x216 x217 x218 x219 x220 x221 x222 x223 x224 x225 x226 x227 x228 x229 x230 x231 x232 x233 x234 x235 x236 x237 x238 x239 x240 x241 x242 x243 x244 x245 x246 x247 x248 x249 x250 x251 x252 x253 x254 x255 x256 x257 x258 x259 x260 x261 x262 x263 x264 x265 x266 g ws hbl hb
      have HBG := Lib.hid hbl
      have HBW := Lib.hid hb
      have HZS0 := Lib.hid (show Below Z.heap.size Z ws from HYZ.out.trans (hb.mono HYZ.out.size))
      have HL8 := Lib.hid (HF8.out nb)
      have HT8 := Lib.hid (HFT.out nb)
      have HLM := Lib.hid (sha_len m)
      clear hbl hb HF0 HF8 HFT HFS HPD HPB HKB HPN hnbl hkp hkp2 hgpl hgkl HYB
      generalize F nb = H at *
      have zf := zero_sum
      have zs1 : zSum.size = 32 := by rfl
      have zs2 : ¬ zSum = #[] := by intro h; have := congrArg Array.size h; rw [zs1] at this; cases this
      go_wp2_with fail
      obtain ⟨Y4, hY4⟩ : ∃ Y4, Y4 = ws.alloc (Obj.cells zSum 41) := ⟨_, rfl⟩
      have HO := Lib.hid (show OutW Z Y4 g ws.heap.size H (sha m) 0 by
        rw [hY4]
        exact ⟨HZS0.out.alloc HZS0.out.size _, HBG.out.alloc _, by rw [outZ_zero (by rw [sha_len])]; exact Blk.new _ _ _⟩)
      rw [← hY4]
      clear zf zs1 zs2 hY4
      have hgl : g ≠ ws.heap.size := Nat.ne_of_lt HBG.out.lt
      have hzl := HZS0.out.size
      generalize ws.heap.size = O at *
      refine loop10 _ Y4 Z g O H (sha m) _ _ _ _ _ _ _ _ _ _ _ _ _ _ _ _ _ _ _ _ _ _ _ _ _ _ _ _ _ _ _ _ _ _ _ _ _ _ _ _ _ _ _ _ _ _ _ _ _ _ _ _ _ _ _ _ _ _ _ _ _ _ _ _ _ _ _ _ _ _ _ _ _ _ _ _ _ _ _ _ _ _ _ _ _ _ _ _ _ _ _ _ _ _ _ _ _ _ _ _ _ _ _ _ _ _ _ _ _ _ _ _ _ _ _ _ _ _ _ _ _ _ _ _ _ _ _ _ _ _ _ _ _ _ _ _ _ _ _ _ _ _ _ _ _ _ _ _ _ _ _ _ _ _ _ _ _ _ _ _ _ _ _ _ _ _ _ _ _ _ _ _ _ _ _ _ _ _ _ _ _ _ _ _ _ _ _ _ _ _ _ _ _ _ _ _ _ _ _ _ _ _ _ _ _ _ _ _ _ _ _ _ _ _ _ _ _ _ _ _ _ _ _ _ _ _ _ _ _ _ _ _ _ _ _ _ _ _ _ _ _ _ _ _ _ _ _ _ _ _ _ _ _ _ _ _ _ _ _ _ _ _ _ _ _ _ _ _ _ _ _ _ _ _ _ _ _ _ _ _ _ _ hgl hzl HO HL8 HT8 HSH HLM ?_
      intro y25 y267 y268 y269 y270 y271 y272 y273 y274 y275 y276 y277 y278 y279 y280 y281 y282 y283 wf hs
      have h3 := hs.hO
      rw [show (32 : Nat) = (sha m).length from (sha_len m).symm, outZ_end] at h3
      have HO3 := Lib.hid h3
      have HZS := Lib.hid (H2.out.below hs.bel H2.out.lt)
      have HBF := Lib.hid hs.bel
      have HIS := Lib.hid (show (Tryd.prog.info? 41).map (·.size) = some (vb (sha m)).size by rw [vb_size, sha_len]; kernel_rfl)
      clear h3 hs HO hgl hzl HSH HLM HL8 HT8
      go_wp2_with (first
        | (refine wpList_load_row rfl 41 (.tmp 24) rfl O rfl 41 (vb (sha m)) (0, 0) _ (by exact HO3.out) Tryd.underlying41 rfl HIS.out ?_)
        | (refine wpList_store_rowTo rfl 41 (.tmp 2) (.tmp 284) rfl rfl w.heap.size (vb (sha m)) rfl rfl 41 zSum (by exact HZS.out) HIS.out (by rw [vb_size, sha_len]; rfl) (vb_one _) ?_))
      refine bodyPost_ret (results_cell_row rfl _ _ w.heap.size 41 (vb (sha m)) (0, 0) _ rfl (setRow_heap _ _ zSum _ 41 (0, 0) HZS.out) Tryd.underlying41 rfl HIS.out) rfl ?_
      exact ⟨rfl, (HZ.out.trans (HBF.out.mono HZ.out.size)).trans ⟨rfl, rfl, rfl, by simp [World.setRow], fun i hi => setRow_other _ _ i _ (by omega)⟩⟩
end Go.Proofs.YtbgnjjbmidkhlaaDoor
/- ShaSums: contracts that it needs. -/
namespace Go.Proofs.YtbgnjjbmidkhlaaDoor
set_option linter.unusedVariables false
set_option linter.unusedSimpArgs false
open Go.RowKit
set_option linter.unusedVariables false
set_option linter.unusedSimpArgs false
set_option maxRecDepth 100000 in
theorem short_c (s : List Nat) (w : World) (hs : s.length = 32) (hl : ∀ c ∈ s, c < 256) :
    Calls Tryd.prog 13 #[.agg (vb s)] w fun e w' => e = .returned (.int .u64 (number (s.take 8) : Nat)) ∧ Below w.heap.size w w' := by
  have hg : ∀ W, Blk W w.heap.size 41 (vb s) → Calls Tryd.prog 24 #[.slice (some ⟨w.heap.size, 0, none⟩) 32 32, .int .i64 8] W fun e w' => e = .returned (.tuple #[.int .u64 (number (s.take 8) : Nat), .int .i64 0]) ∧ W = w' := fun W hb => by
    have h1 := get_c (w.heap.size + 1) (some ⟨w.heap.size, 0, none⟩) 32 s 8 W (rd_blk hb _ 32 (by show byt s = ((byt s).toArray.toList).take 32; rw [List.toList_toArray, List.take_of_length_le (by rw [byt_len, hs]; decide)])) hl (by omega) (by decide) (by decide)
    have e1 : getErr s.length 8 = 0 := by rw [hs]; rfl
    have e2 : getNum s 8 = number (s.take 8) := by unfold getNum; rw [e1]; rfl
    rw [e1, e2, hs] at h1
    exact h1
  have HG := Lib.hid hg
  have hsz : (vb s).size = 32 := by rw [vb_size, hs]
  go_enter Tryd.func13, Tryd.ntmps13
  clear hg
  go_wp2_with (go_at_call 24; (refine (HG.out _ (by exact Blk.new _ _ _)).mono ?_); rintro e w1 ⟨rfl, rfl⟩)
  go_ret
  exact ⟨rfl, (Below.refl _ _).alloc (Nat.le_refl _) _⟩
theorem eq_sum (l m : List Nat) (hl : l.length = 32) (hm : m.length = 32) (hs : ∀ c ∈ l, c < 256) (hs2 : ∀ c ∈ m, c < 256) (w : World) :
    (Op.equalIn 10000 41 (.agg (vb l)) (.agg (vb m))).run Tryd.prog w = .ok (l == m) w :=
  run_equalIn_barr Tryd.underlying41 Tryd.underlying5 (by kernel_rfl) (by kernel_rfl) l m hl hm hs hs2 w
end Go.Proofs.YtbgnjjbmidkhlaaDoor
/- ShaSums: the walk. -/
namespace Go.Proofs.YtbgnjjbmidkhlaaDoor
set_option linter.unusedVariables false
set_option linter.unusedSimpArgs false
open Go.RowKit
set_option linter.unusedVariables false
set_option linter.unusedSimpArgs false
theorem rd_mid {w : World} {g : Nat} {l : List Nat} (h : LentAt w g l) (off n : Nat) (hn : off + n ≤ l.length) : Rd w (g + 1) (some ⟨g, off, none⟩) (byt ((l.drop off).take n)) := fun _ => ⟨_, rfl, Nat.lt_succ_self _, fun j u hu => by
  have hj : j < n := by
    rcases Nat.lt_or_ge j n with h1 | h1
    · exact h1
    · rw [List.getElem?_eq_none (by rw [byt_len, List.length_take]; omega)] at hu; cases hu
  rw [Addr.add_mid, h.cell]
  have e1 := vb_at (lent l) (off + j) (by rw [lent_len]; omega)
  rw [e1, lent_at (by omega), ← hu, byt_at (by rw [List.length_take, List.length_drop]; omega)]
  congr 3
  rw [List.getD_eq_getElem?_getD, List.getD_eq_getElem?_getD, List.getElem?_take_of_lt hj, List.getElem?_drop]⟩
/-- the pieces that the bytes are cut in -/
def cuts (gi : Nat) (l : List Nat) (k j : Nat) : List Part := [(some ⟨gi, 0, none⟩, l.length + 8, l.take k), (some ⟨gi, k, none⟩, l.length + 8 - k, (l.drop k).take (j - k)), (none, 0, []), (some ⟨gi, j, none⟩, l.length + 8 - j, l.drop j)]
theorem cuts_cat (gi : Nat) (l : List Nat) (k j : Nat) (h1 : k ≤ j) (h2 : j ≤ l.length) : cat (cuts gi l k j) 4 = l := by
  show l.take k ++ ((l.drop k).take (j - k) ++ ([] ++ (l.drop j ++ []))) = l
  rw [List.append_nil, List.nil_append]
  have : l.drop j = (l.drop k).drop (j - k) := by rw [List.drop_drop]; congr 1; omega
  rw [this, List.take_append_drop, List.take_append_drop]
def ArrAt (w : World) (u : Value) (base : Nat) (ps : List Part) : Prop := ∃ g, u = .slice (some ⟨g, 0, none⟩) ps.length ps.length ∧ base ≤ g ∧ Blk w g 36 (ps.map pv).toArray
theorem ArrAt.next {w w' : World} {u : Value} {base : Nat} {ps : List Part} (h : ArrAt w u base ps) (hb : Below w.heap.size w w') : ArrAt w' u base ps := by
  obtain ⟨g, e, hg, hh⟩ := h
  exact ⟨g, e, hg, hh.below hb hh.lt⟩
theorem ArrAt.of {w : World} {u : Value} {base : Nat} {ps : List Part} (h : ArrAt w u base ps) (m : List Nat) (hm : cat ps ps.length = m) (hml : ∀ c ∈ m, c < 256) (hr : ∀ p ∈ ps, Rd w w.heap.size p.1 (byt p.2.2)) (hlen : m.length ≤ 10000) (hn2 : ps.length ≤ 1000) (hR : RoundsAt w) :
    Calls Tryd.prog 14 #[u] w fun e w' => e = .returned (.agg (vb (sha m))) ∧ Below w.heap.size w w' := by
  obtain ⟨g, rfl, hg, hh⟩ := h
  refine of_c g ps.length ps.length ps m w hm hml rfl (fun k hk => ?_) hh.lt hr hlen hn2 (Nat.le_refl _) hR.1 hR.2
  rw [hh.cell k, List.getElem?_toArray, List.getElem?_map, List.getElem?_eq_getElem hk]
  rfl
theorem sliceInfo : (Tryd.prog.info? 36).map (fun i => (i.zero, i.size, i.bytes)) = some (some (.slice none 0 0), 1, 24) := by kernel_rfl
theorem run_build_parts (w : World) (ps : List Part) {o : Oper} {a : Act} (xs : Array (Nat × Operand)) (ho : o.op = .buildSlice 59 ps.length xs)
    (hx : (xs.map fun (p : Nat × Operand) => (p.1, a.eval p.2)).toList = (((ps.map pv).zipIdx 0).map fun x => (x.2, x.1))) (hlen : ps.length ≤ 1000) (hpos : 0 < ps.length) :
    (execOp a.eval o).run Tryd.prog w = .ok (.value (.slice (some ⟨w.heap.size, 0, none⟩) ps.length ps.length)) (w.alloc (.cells (ps.map pv).toArray 36)) := by
  obtain ⟨i0, hi, hz0, hz1, hz2⟩ := info_parts sliceInfo
  have h1 := run_buildSlice (P := Tryd.prog) w 59 36 ps.length (xs.map fun (p : Nat × Operand) => (p.1, a.eval p.2)) (ps.map pv).toArray i0 _ Tryd.underlying59 hi hz0 (by rw [hz1]; omega) (by rw [hz1]; omega) (by
    rw [hz1]
    refine (congrArg _ hx).trans ?_
    exact (Great.fill_flat (ps.map pv) _ (fun v hv => by
      obtain ⟨p, _, rfl⟩ := List.mem_map.1 hv
      rfl) (by simp)))
  unfold execOp
  simp only [ho, Sem.run_bind, h1, Result.andThen_ok]
  rfl
theorem run_build1 (w : World) (p : Part) {o : Oper} {a : Act} (x : Operand) (ho : o.op = .buildSlice 59 1 #[(0, x)]) (hx : a.eval x = pv p) :
    (execOp a.eval o).run Tryd.prog w = .ok (.value (.slice (some ⟨w.heap.size, 0, none⟩) 1 1)) (w.alloc (.cells ([p].map pv).toArray 36)) :=
  run_build_parts w [p] #[(0, x)] ho (by simp [hx]) (by simp) (by simp)
theorem run_build4 (w : World) (p0 p1 p2 p3 : Part) {o : Oper} {a : Act} (x0 x1 x2 x3 : Operand) (ho : o.op = .buildSlice 59 4 #[(0, x0), (1, x1), (2, x2), (3, x3)]) (h0 : a.eval x0 = pv p0) (h1 : a.eval x1 = pv p1) (h2 : a.eval x2 = pv p2) (h3 : a.eval x3 = pv p3) :
    (execOp a.eval o).run Tryd.prog w = .ok (.value (.slice (some ⟨w.heap.size, 0, none⟩) 4 4)) (w.alloc (.cells ([p0, p1, p2, p3].map pv).toArray 36)) :=
  run_build_parts w [p0, p1, p2, p3] #[(0, x0), (1, x1), (2, x2), (3, x3)] ho (by simp [h0, h1, h2, h3]) (by simp) (by simp)
end Go.Proofs.YtbgnjjbmidkhlaaDoor
/- Regions that draw their order, some of whose operations make memory: what only looks is taken first. -/
namespace Go.Proofs.YtbgnjjbmidkhlaaDoor
set_option linter.unusedVariables false
set_option linter.unusedSimpArgs false
open Go.RowKit
set_option linter.unusedVariables false
section
variable {P : Program} {ops : Array Oper} {md : Region.Mode} {S : World → Prop} {Q : Exit → Act → World → Prop}
theorem plain_value {o : Oper} {b : Act} {w : World} {v : Value} (hp : plainOp o.op = true) (h : o.quietAt P b S w v) : (execOp b.eval o).run P w = .ok (.value v) w := by
  unfold Oper.quietAt at h
  have hne := plain_run (P := P) (ρ := b.eval) hp w
  have hnk : ∀ w', (execOp b.eval o).run P w ≠ .ok .skip w' := by
    obtain ⟨dst, op, type, pos, after, guard⟩ := o
    have key : ∀ {α : Type} (s : Sem α) (g : α → Value) (w' : World), ((do pure (.value (g (← s))) : Sem Next)).run P w ≠ .ok .skip w' := by
      intro α s g w'
      rw [Sem.run_bind]
      cases s.run P w with
      | ok u w1 => simp [Result.andThen]
      | halt x w1 => simp [Result.andThen]
    intro w'
    cases op <;> simp only [plainOp] at hp <;> (try cases hp)
    case move x => simp [execOp]
    case assign x => simp [execOp]
    case pick c x y => exact key (asBool (b.eval c)) (fun t => if t then b.eval x else b.eval y) w'
    all_goals exact key _ (fun t => t) w'
  generalize (execOp b.eval o).run P w = r at *
  cases r with
  | ok n w' =>
    cases n <;> simp only [Oper.quietUpon] at h
    case value u => rw [h.1, h.2]
    case skip => exact absurd rfl (hnk w')
    case enter f args => exact absurd rfl (hne w' f args)
  | halt x w' => simp only [Oper.quietUpon] at h
/-- what only looks, first -/
theorem anyH_quiet (i : Nat) {oi : Oper} {fuel : Nat} {listed : Array Bool} {a : Act} {w : World} (hi : ops[i]? = some oi) (hs : Region.noSelect ops = true) (hf : Region.free md ops listed i = true) (hr : (Region.ready md ops listed).contains i = true)
    (hQ : ∀ v c a w, Q (.panic c) (a.put oi.dst v) w → Q (.panic c) a w) (hw : Region.wanted oi (yielded ops a.tmps) = true) (hp : plainOp oi.op = true) (hS : S w)
    (h : ∀ K : Act → Prop, (∀ a', wpAnyH P md ops Q S fuel (listed.setIfInBounds i true) a' w → K a') → oi.quiet P a S K) : wpAnyH P md ops Q S (fuel + 1) listed a w := by
  obtain ⟨v, h1, h2⟩ := h _ (fun _ h => h)
  exact wpAnyH_take hi hs hf hr (hQ v) (.inl ⟨hw, fun w' hw' => plain_value hp (h1 w' hw')⟩) hS h2
/-- the only one that may come up -/
theorem anyH_op (i : Nat) {o : Oper} {fuel : Nat} {listed : Array Bool} {a : Act} {w : World} (hr : Region.ready md ops listed = [i]) (hi : ops[i]? = some o) (hw : Region.wanted o (yielded ops a.tmps) = true)
    (h : o.wp P a w (fun a' w' => S w' ∧ wpAnyH P md ops Q S fuel (listed.setIfInBounds i true) a' w') Q) : wpAnyH P md ops Q S (fuel + 1) listed a w := by
  refine wpAnyH_all hr (by simp) fun j hj => ?_
  obtain rfl := List.mem_singleton.1 hj
  unfold wpOp
  simp only [hi, hw, if_true]
  exact .inl h
/-- one of two -/
theorem anyH_two (i j : Nat) {o p : Oper} {fuel : Nat} {listed : Array Bool} {a : Act} {w : World} (hr : Region.ready md ops listed = [i, j]) (hi : ops[i]? = some o) (hj : ops[j]? = some p) (hw : Region.wanted o (yielded ops a.tmps) = true) (hv : Region.wanted p (yielded ops a.tmps) = true)
    (h : o.wp P a w (fun a' w' => S w' ∧ wpAnyH P md ops Q S fuel (listed.setIfInBounds i true) a' w') Q) (h' : p.wp P a w (fun a' w' => S w' ∧ wpAnyH P md ops Q S fuel (listed.setIfInBounds j true) a' w') Q) : wpAnyH P md ops Q S (fuel + 1) listed a w := by
  refine wpAnyH_all hr (by simp) fun k hk => ?_
  rcases List.mem_cons.1 hk with rfl | hk
  · unfold wpOp
    simp only [hi, hw, if_true]
    exact .inl h
  · obtain rfl := List.mem_singleton.1 hk
    unfold wpOp
    simp only [hj, hv, if_true]
    exact .inl h'
theorem wpList_valG {ops : Array Oper} {rest : List Oper} {o : Oper} {a : Act} {w : World} {Q : Exit → Act → World → Prop} (hw : Region.wanted o (yielded ops a.tmps) = true) (v : Value) (hr : (execOp a.eval o).run P w = .ok (.value v) w)
    (h : wpList P ops Q rest (a.put o.dst v) w) : wpList P ops Q (o :: rest) a w :=
  wpList_step fun K hK => by
    rw [if_pos hw]
    unfold Oper.wp
    rw [hr]
    exact hK _ _ h
theorem wpList_loadG {ops : Array Oper} {rest : List Oper} {o : Oper} {a : Act} {w : World} {Q : Exit → Act → World → Prop} (hw : Region.wanted o (yielded ops a.tmps) = true) (ty : TypeId) (x : Operand) (ho : o.op = .load ty x) (n off : Nat) (hx : a.eval x = .pointer (some ⟨n, off, none⟩)) (cs : List Value) (d : TypeDesc)
    (hc : w.rangeAt n off cs) (hu : P.underlying ty = some d) (hd : d.isRow = true) (hi : (P.info? ty).map (·.size) = some cs.length)
    (h : wpList P ops Q rest (a.put o.dst (.agg cs.toArray)) w) : wpList P ops Q (o :: rest) a w :=
  wpList_valG hw _ (by
    unfold execOp
    simp only [ho, hx, Instr.loadAt, Instr.sureAddr, Sem.run_bind, Sem.run_pure, Result.andThen_ok, run_loadVar_mid w n off ty cs d hc hu hd hi]) h
theorem wpList_valM {rest : List Oper} {o : Oper} {a : Act} {w : World} (hw : Region.wanted o (yielded ops a.tmps) = true) (v : Value) (w' : World) (hr : (execOp a.eval o).run P w = .ok (.value v) w')
    (h : wpList P ops Q rest (a.put o.dst v) w') : wpList P ops Q (o :: rest) a w :=
  wpList_step fun K hK => by
    rw [if_pos hw]
    unfold Oper.wp
    rw [hr]
    exact hK _ _ h
/-- an operation whose run is told -/
theorem op_value {o : Oper} {a : Act} {w w' : World} {v : Value} {K : Act → World → Prop} (hrun : (execOp a.eval o).run P w = .ok (.value v) w') (a' : Act) (ha : a.put o.dst v = a') (h : K a' w') : o.wp P a w K Q := by
  subst ha
  unfold Oper.wp
  rw [hrun]
  exact h
/-- a call -/
theorem op_call {o : Oper} {a : Act} {w : World} {f : FuncId} {args : Array Value} {K : Act → World → Prop} (hrun : (execOp a.eval o).run P w = .ok (.enter f args) w) (a' : Value → Act) (ha : ∀ v, a.put o.dst v = a' v) (hc : Calls P f args w fun e w' => ∃ v, e = .returned v ∧ K (a' v) w') : o.wp P a w K Q := by
  unfold Oper.wp
  rw [hrun]
  refine Calls.mono hc ?_
  rintro e w' ⟨v, rfl, h⟩
  show K (a.put o.dst v) w'
  rw [ha]
  exact h
end
end Go.Proofs.YtbgnjjbmidkhlaaDoor
/- Below, and no draw is taken back. -/
namespace Go.Proofs.YtbgnjjbmidkhlaaDoor
set_option linter.unusedVariables false
set_option linter.unusedSimpArgs false
open Go.RowKit
structure Gro (B : Nat) (w w' : World) : Prop extends Below B w w' where
  drawn : w.drawn ≤ w'.drawn
theorem Gro.refl (B : Nat) (w : World) : Gro B w w := ⟨Below.refl _ _, Nat.le_refl _⟩
theorem Gro.trans {B : Nat} {a b c : World} (h : Gro B a b) (k : Gro B b c) : Gro B a c := ⟨h.toBelow.trans k.toBelow, Nat.le_trans h.drawn k.drawn⟩
theorem Gro.mono {B B' : Nat} {w w' : World} (h : Gro B w w') (hB : B' ≤ B) : Gro B' w w' := ⟨h.toBelow.mono hB, h.drawn⟩
theorem Gro.drew {B : Nat} {a w : World} (h : Gro B a w) : Gro B a w.drew := ⟨h.toBelow.drew, Nat.le_trans h.drawn (Nat.le_succ _)⟩
theorem Gro.alloc {B : Nat} {a w : World} (h : Gro B a w) (hB : B ≤ w.heap.size) (o : Obj) : Gro B a (w.alloc o) := ⟨h.toBelow.alloc hB o, h.drawn⟩
theorem Gro.drewN {B : Nat} {a w : World} (h : Gro B a w) (n : Nat) : Gro B a (w.drewN n) := ⟨belowDrewN n h.toBelow, Nat.le_trans h.drawn (Nat.le_add_right _ _)⟩
/-- what it is: draws, and blocks laid behind -/
theorem Gro.grow {w w' : World} (h : Gro w.heap.size w w') : ∃ q os, w' = Go.Sort.grow (w.drewN q) os := by
  refine ⟨w'.drawn - w.drawn, w'.heap.extract w.heap.size w'.heap.size, ?_⟩
  obtain ⟨⟨h1, h2, h3, h4, h5⟩, h6⟩ := h
  have hh : w'.heap = w.heap ++ w'.heap.extract w.heap.size w'.heap.size := by
    apply Array.ext_getElem?
    intro i
    rcases Nat.lt_or_ge i w.heap.size with hi | hi
    · rw [Array.getElem?_append_left hi, h5 i hi]
    · rw [Array.getElem?_append_right hi, Array.getElem?_extract]
      by_cases h8 : i - w.heap.size < min w'.heap.size w'.heap.size - w.heap.size
      · rw [if_pos h8, show w.heap.size + (i - w.heap.size) = i by omega]
      · rw [if_neg h8, Array.getElem?_eq_none (by omega)]
  obtain ⟨a, b, c, d, e⟩ := w'
  simp only at *
  subst h1 h2 h3
  unfold Go.Sort.grow
  show World.mk _ _ _ _ _ = World.mk _ _ _ _ _
  congr 1
  show c = w.drawn + (c - w.drawn)
  omega
def ExtG (w0 : World) : Type := {w : World // Gro w0.heap.size w0 w}
instance (w0 : World) : Nonempty (ExtG w0) := ⟨⟨w0, Gro.refl _ _⟩⟩
def ExtG.wd {w0 : World} (x : ExtG w0) : World := x.1
theorem ExtG.bel {w0 : World} (x : ExtG w0) : Gro w0.heap.size w0 x.wd := x.2
end Go.Proofs.YtbgnjjbmidkhlaaDoor
/- Regions that draw their order and hold calls whose answers hang on the order (addresses of new memory): one walk of the text's order serves all. -/
namespace Go.Proofs.YtbgnjjbmidkhlaaDoor
set_option linter.unusedVariables false
set_option linter.unusedSimpArgs false
set_option maxRecDepth 100000
open Go.RowKit
set_option linter.unusedVariables false
section
variable {P : Program} {ops : Array Oper} {md : Region.Mode} {Z : World} {ls : List Tmp} {V : Tmp → Value → World → Prop}
def SimAt_g (ls : List Tmp) (V : Tmp → Value → World → Prop) (b a : Act) (w : World) (k : Tmp) : Prop :=
  (ls.contains k = true → b.eval (.tmp k) = tok → V k (a.eval (.tmp k)) w) ∧ (ls.contains k = false → a.eval (.tmp k) = b.eval (.tmp k))
structure Sim_g (ls : List Tmp) (V : Tmp → Value → World → Prop) (b a : Act) (w : World) : Prop where
  de : a.defers = b.defers
  sz : a.tmps.size = b.tmps.size
  at_ : ∀ k, SimAt_g ls V b a w k
def LoudUpon_g (P : Program) (ls : List Tmp) (V : Tmp → Value → World → Prop) (dst : Option Tmp) (w : World) (v : Value) : Result Next → Prop
  | .ok (.value u) w' => (w' = w ∧ u = v ∧ ∀ d, dst = some d → ls.contains d = false) ∨ (Gro w.heap.size w w' ∧ ∀ d, dst = some d → ls.contains d = true ∧ V d u w')
  | .ok (.enter f args) w' => w' = w ∧ Calls P f args w (fun e w'' => ∃ u, e = .returned u ∧ Gro w.heap.size w w'' ∧ ∀ d, dst = some d → (ls.contains d = true → V d u w'') ∧ (ls.contains d = false → u = v))
  | _ => False
def LQ_g (P : Program) (ops : Array Oper) (Z : World) (ls : List Tmp) (V : Tmp → Value → World → Prop) (o : Oper) (b : Act) (v : Value) : Prop :=
  ∀ a w, Gro Z.heap.size Z w → (∀ k ∈ o.looksAt ops, SimAt_g ls V b a w k) → LoudUpon_g P ls V o.dst w v ((execOp a.eval o).run P w)
theorem LQ_g.put {o : Oper} {b : Act} {v u : Value} {dst : Option Tmp} (h : ∀ d, dst = some d → d ∉ o.looksAt ops) (hq : LQ_g P ops Z ls V o b v) : LQ_g P ops Z ls V o (b.put dst u) v := fun a w hC hs =>
  hq a w hC fun k hk => by
    have := hs k hk
    unfold SimAt_g at *
    rw [Act.eval_put (a := b) (dst := dst) (v := u) (x := .tmp k) (fun d hd he => h d hd (by injection he with he; rw [← he]; exact hk))] at this
    exact this
theorem LQ_g.unput {o : Oper} {b : Act} {v u : Value} {dst : Option Tmp} (h : ∀ d, dst = some d → d ∉ o.looksAt ops) (hq : LQ_g P ops Z ls V o (b.put dst u) v) : LQ_g P ops Z ls V o b v := fun a w hC hs =>
  hq a w hC fun k hk => by
    have := hs k hk
    unfold SimAt_g at *
    rw [Act.eval_put (a := b) (dst := dst) (v := u) (x := .tmp k) (fun d hd he => h d hd (by injection he with he; rw [← he]; exact hk))]
    exact this
def wpLoud_g (P : Program) (ops : Array Oper) (Z : World) (ls : List Tmp) (V : Tmp → Value → World → Prop) (Q : Act → Prop) : List Oper → Act → Prop
  | [], b => Q b
  | o :: rest, b => if Region.wanted o (yielded ops b.tmps) then ∃ v, LQ_g P ops Z ls V o b v ∧ wpLoud_g P ops Z ls V Q rest (b.put o.dst v) else wpLoud_g P ops Z ls V Q rest (b.put o.dst undef)
def lOp_g (P : Program) (ops : Array Oper) (Z : World) (ls : List Tmp) (V : Tmp → Value → World → Prop) (i : Nat) (K : Act → Prop) (b : Act) : Prop :=
  match ops[i]? with
  | none => K b
  | some o => if Region.wanted o (yielded ops b.tmps) then ∃ v, LQ_g P ops Z ls V o b v ∧ K (b.put o.dst v) else K (b.put o.dst undef)
theorem lOp_mono_g {i : Nat} {b : Act} {K K' : Act → Prop} (h : ∀ b, K b → K' b) (hh : lOp_g P ops Z ls V i K b) : lOp_g P ops Z ls V i K' b := by
  unfold lOp_g at *
  split
  · exact h _ (by simpa [*] using hh)
  · rename_i o ho
    simp only [ho] at hh
    split
    · rename_i hw; simp only [hw, if_true] at hh; obtain ⟨v, h1, h2⟩ := hh; exact ⟨v, h1, h _ h2⟩
    · rename_i hw; simp only [hw] at hh; exact h _ hh
def wpAnyL_g (P : Program) (md : Region.Mode) (ops : Array Oper) (Z : World) (ls : List Tmp) (V : Tmp → Value → World → Prop) (Q : Act → Prop) : Nat → Array Bool → Act → Prop
  | 0, listed, b => Region.ready md ops listed = [] ∧ Q b
  | fuel + 1, listed, b =>
    (Region.ready md ops listed = [] → Q b) ∧
    ∀ i ∈ Region.ready md ops listed, lOp_g P ops Z ls V i (wpAnyL_g P md ops Z ls V Q fuel (listed.setIfInBounds i true)) b
theorem eval_put_at_g (a : Act) (d : Tmp) (v : Value) (k : Tmp) : (a.put (some d) v).eval (.tmp k) = if k = d ∧ d < a.tmps.size then v else a.eval (.tmp k) := by
  by_cases h : k = d
  · subst h
    by_cases h2 : k < a.tmps.size
    · rw [if_pos ⟨rfl, h2⟩]
      simp [Act.put, Act.eval, h2]
    · rw [if_neg (fun h3 => h2 h3.2)]
      simp [Act.put, Act.eval, h2]
  · rw [if_neg (fun h3 => h h3.1)]
    exact Act.eval_put fun e he hx => h (by injection he with he; injection hx with hx; rw [hx, he])
theorem Sim_g.put {b a : Act} {w : World} (h : Sim_g ls V b a w) (dst : Option Tmp) (v u : Value) (hd : ∀ d, dst = some d → (ls.contains d = true → v = tok → V d u w) ∧ (ls.contains d = false → u = v)) : Sim_g ls V (b.put dst v) (a.put dst u) w := by
  cases dst with
  | none => exact h
  | some d =>
    obtain ⟨h1, h2⟩ := hd d rfl
    refine ⟨h.de, by simp [Act.put, h.sz], fun k => ?_⟩
    obtain ⟨s1, s2⟩ := h.at_ k
    unfold SimAt_g
    rw [eval_put_at_g, eval_put_at_g, h.sz]
    by_cases hk : k = d ∧ d < b.tmps.size
    · rw [if_pos hk, if_pos hk]
      obtain ⟨rfl, _⟩ := hk
      exact ⟨h1, h2⟩
    · rw [if_neg hk, if_neg hk]
      exact ⟨s1, s2⟩
theorem Sim_g.next {b a : Act} {w w' : World} (hV : ∀ k u w w', V k u w → Gro w.heap.size w w' → V k u w') (h : Sim_g ls V b a w) (hb : Gro w.heap.size w w') : Sim_g ls V b a w' :=
  ⟨h.de, h.sz, fun k => ⟨fun h1 h2 => hV k _ _ _ ((h.at_ k).1 h1 h2) hb, (h.at_ k).2⟩⟩
def guardsB_g (ops : Array Oper) (ls : List Tmp) : Bool := ops.all fun o => match o.guard with
  | none => true
  | some (g, _) => match (ops[g]?).bind (·.dst) with
    | some d => !ls.contains d
    | none => true
theorem wanted_sim_g {b a : Act} {w : World} (h : Sim_g ls V b a w) (hG : guardsB_g ops ls = true) {o : Oper} {i : Nat} (ho : ops[i]? = some o) : Region.wanted o (yielded ops a.tmps) = Region.wanted o (yielded ops b.tmps) := by
  unfold Region.wanted
  cases hg : o.guard with
  | none => rfl
  | some gw =>
    obtain ⟨g, want⟩ := gw
    have hi : i < ops.size := by
      rcases Nat.lt_or_ge i ops.size with h1 | h1
      · exact h1
      · rw [Array.getElem?_eq_none h1] at ho; cases ho
    have he : ops[i] = o := by rw [Array.getElem?_eq_getElem hi] at ho; injection ho
    have h1 := (Array.all_eq_true.1 hG) i hi
    rw [he, hg] at h1
    have hy : yielded ops a.tmps g = yielded ops b.tmps g := by
      unfold yielded
      cases ht : (ops[g]?).bind (·.dst) with
      | none => rfl
      | some t =>
        simp only [ht] at h1
        have h2 := (h.at_ t).2 (by simpa using h1)
        have h3 : a.tmps[t]? = b.tmps[t]? := by
          rcases Nat.lt_or_ge t b.tmps.size with h4 | h4
          · have h5 : t < a.tmps.size := by rw [h.sz]; exact h4
            simp only [Act.eval] at h2
            rw [Array.getElem?_eq_getElem h4, Array.getElem?_eq_getElem h5]
            simpa [h4, h5] using h2
          · rw [Array.getElem?_eq_none h4, Array.getElem?_eq_none (by rw [h.sz]; exact h4)]
        simp [h3]
    simp only [hy]
theorem loudStep_g (hV : ∀ k u w w', V k u w → Gro w.heap.size w w' → V k u w') (hG : guardsB_g ops ls = true) {Q' : Exit → Act → World → Prop} {K : Act → Prop} {K' : Act → World → Prop} (ih : ∀ b a w, Gro Z.heap.size Z w → Sim_g ls V b a w → K b → K' a w)
    {i : Nat} {b a : Act} {w : World} (hC : Gro Z.heap.size Z w) (hs : Sim_g ls V b a w) (h1 : lOp_g P ops Z ls V i K b) : wpOp P ops Q' i K' a w := by
  unfold lOp_g at h1
  unfold wpOp
  cases ho : ops[i]? with
  | none => simp only [ho] at h1 ⊢; exact ih _ _ _ hC hs h1
  | some o =>
    simp only [ho] at h1 ⊢
    rw [wanted_sim_g hs hG ho]
    split
    · rename_i hw
      simp only [hw, if_true] at h1
      obtain ⟨v, hq, hK⟩ := h1
      refine .inl ?_
      have h2 := hq a w hC (fun k _ => hs.at_ k)
      unfold Oper.wp
      generalize (execOp a.eval o).run P w = r at *
      cases r with
      | ok n w' =>
        cases n <;> simp only [LoudUpon_g] at h2 <;> simp only [Oper.upon]
        case value u =>
          rcases h2 with ⟨rfl, rfl, h3⟩ | ⟨hb, h3⟩
          · exact ih _ _ _ hC (hs.put _ _ _ fun d hd => ⟨fun h4 => (by rw [h3 d hd] at h4; cases h4), fun _ => rfl⟩) hK
          · exact ih _ _ _ (hC.trans (hb.mono hC.size)) ((hs.next hV hb).put _ _ _ fun d hd => ⟨fun _ _ => (h3 d hd).2, fun h4 => (by rw [(h3 d hd).1] at h4; cases h4)⟩) hK
        case enter f args =>
          obtain ⟨rfl, hc⟩ := h2
          refine hc.mono ?_
          rintro e w'' ⟨u, rfl, hb, hd⟩
          exact ih _ _ _ (hC.trans (hb.mono hC.size)) ((hs.next hV hb).put _ _ _ fun d h3 => ⟨fun h4 _ => (hd d h3).1 h4, (hd d h3).2⟩) hK
      | halt x w' => simp only [LoudUpon_g] at h2
    · rename_i hw
      simp only [hw] at h1
      exact ih _ _ _ hC (hs.put _ _ _ fun d hd => ⟨fun _ h4 => (by cases h4), fun _ => rfl⟩) h1
theorem wpAny_of_loud_g (hV : ∀ k u w w', V k u w → Gro w.heap.size w w' → V k u w') (hG : guardsB_g ops ls = true) {Q : Act → Prop} {Q' : Exit → Act → World → Prop} (hQ : ∀ b a w, Gro Z.heap.size Z w → Sim_g ls V b a w → Q b → Q' .normal a w) :
    ∀ (fuel : Nat) (listed : Array Bool) (b a : Act) (w : World), Gro Z.heap.size Z w → Sim_g ls V b a w → wpAnyL_g P md ops Z ls V Q fuel listed b → wpAny P md ops Q' fuel listed a w
  | 0, _, _, _, _, hC, hs, h => ⟨h.1, hQ _ _ _ hC hs h.2⟩
  | fuel + 1, listed, b, a, w, hC, hs, h => ⟨fun h0 => hQ _ _ _ hC hs (h.1 h0), fun i hi => loudStep_g hV hG (fun b a w => wpAny_of_loud_g hV hG hQ fuel _ b a w) hC hs (h.2 i hi)⟩
def YieldsL_g (P : Program) (ops : Array Oper) (Z : World) (ls : List Tmp) (V : Tmp → Value → World → Prop) (o : Oper) (v : Value) (b : Act) : Prop :=
  (Region.wanted o (yielded ops b.tmps) = true ∧ LQ_g P ops Z ls V o b v) ∨ (Region.wanted o (yielded ops b.tmps) = false ∧ v = undef)
theorem YieldsL_g.lOp {i : Nat} {o : Oper} {v : Value} {b : Act} (hi : ops[i]? = some o) (hy : YieldsL_g P ops Z ls V o v b) {K : Act → Prop} (h : K (b.put o.dst v)) : lOp_g P ops Z ls V i K b := by
  unfold Go.Proofs.YtbgnjjbmidkhlaaDoor.lOp_g
  simp only [hi]
  rcases hy with ⟨hw, hv⟩ | ⟨hw, rfl⟩
  · simp only [hw, if_true]; exact ⟨v, hv, h⟩
  · simp only [hw, Bool.false_eq_true, if_false]; exact h
theorem yieldsL_of_g {i : Nat} {o : Oper} {b : Act} {K : Act → Prop} (hi : ops[i]? = some o) (h : lOp_g P ops Z ls V i K b) : ∃ v, YieldsL_g P ops Z ls V o v b ∧ K (b.put o.dst v) := by
  unfold lOp_g at h
  simp only [hi] at h
  by_cases hw : Region.wanted o (yielded ops b.tmps) = true
  · simp only [hw, if_true] at h
    obtain ⟨v, h1, h2⟩ := h
    exact ⟨v, .inl ⟨hw, h1⟩, h2⟩
  · simp only [hw] at h
    exact ⟨undef, .inr ⟨by simpa using hw, rfl⟩, h⟩
theorem lOp_put_g {j : Nat} {oi oj : Oper} {v : Value} (hj : ops[j]? = some oj) (hap : oi.apart ops oj = true) {K : Act → Prop} {b : Act}
    (hy : YieldsL_g P ops Z ls V oi v b) (h : lOp_g P ops Z ls V j K (b.put oi.dst v)) : lOp_g P ops Z ls V j (fun b' => YieldsL_g P ops Z ls V oi v b' ∧ K (b'.put oi.dst v)) b := by
  obtain ⟨h1, h2, h3⟩ := Oper.apart_spec hap
  have keep : ∀ (b : Act), YieldsL_g P ops Z ls V oi v b → ∀ u, YieldsL_g P ops Z ls V oi v (b.put oj.dst u) := fun b hy u => by
    unfold YieldsL_g at *
    rw [wanted_put oi b oj.dst u h3]
    exact hy.imp (fun h => ⟨h.1, h.2.put h3⟩) id
  unfold lOp_g at *
  simp only [hj] at *
  rw [wanted_put oj b oi.dst v h1] at h
  split
  · rename_i hw
    simp only [hw, if_true] at h
    obtain ⟨u, hu, hn⟩ := h
    exact ⟨u, hu.unput h1, keep b hy u, by rw [← Act.put_comm b v u h2]; exact hn⟩
  · rename_i hw
    simp only [hw] at h
    exact ⟨keep b hy _, by rw [← Act.put_comm b v undef h2]; exact h⟩
theorem wpAnyL_first_g {Q : Act → Prop} {i : Nat} {oi : Oper} {v : Value} (hi : ops[i]? = some oi) :
    ∀ (fuel : Nat) (listed : Array Bool) (b : Act),
      (∀ j oj, ops[j]? = some oj → j ≠ i → listed.getD j true = false → (∀ e ∈ oj.after, Region.binds md e = true → e.on ≠ i) → oi.apart ops oj = true) →
      i ∈ Region.ready md ops listed → YieldsL_g P ops Z ls V oi v b →
      wpAnyL_g P md ops Z ls V Q fuel (listed.setIfInBounds i true) (b.put oi.dst v) → wpAnyL_g P md ops Z ls V Q (fuel + 1) listed b := by
  intro fuel
  induction fuel with
  | zero =>
    intro listed b _ hr hy H
    refine ⟨fun h => (by rw [h] at hr; cases hr), fun j hj => ?_⟩
    by_cases hji : j = i
    · subst hji; exact hy.lOp hi H
    · have := ready_mono hj hji
      rw [H.1] at this
      cases this
  | succ fuel ih =>
    intro listed b hfree hr hy H
    refine ⟨fun h => (by rw [h] at hr; cases hr), fun j hj => ?_⟩
    by_cases hji : j = i
    · subst hji; exact hy.lOp hi H
    · have h1 := H.2 j (ready_mono hj hji)
      obtain ⟨hjun, oj, hoj, hall⟩ := mem_ready.1 hj
      have hnot : ∀ e ∈ oj.after, Region.binds md e = true → e.on ≠ i := fun e he hb heq => by
        have h1 := hall e he hb
        have h0 := (mem_ready.1 hr).1
        rw [heq] at h1
        rcases Nat.lt_or_ge i listed.size with h' | h'
        · simp [h'] at h0 h1; rw [h0] at h1; cases h1
        · simp [Array.getElem?_eq_none h'] at h1
      have h2 := lOp_put_g hoj (hfree j oj hoj hji hjun hnot) hy h1
      have hfree' : ∀ k ok, ops[k]? = some ok → k ≠ i → (listed.setIfInBounds j true).getD k true = false →
          (∀ e ∈ ok.after, Region.binds md e = true → e.on ≠ i) → oi.apart ops ok = true := fun k ok hk hki hun hno => by
        refine hfree k ok hk hki ?_ hno
        by_cases hjk : j = k
        · subst hjk; exact hjun
        · rw [getD_set_ne true hjk] at hun; exact hun
      refine lOp_mono_g (fun b' h3 => ih (listed.setIfInBounds j true) b' hfree' (ready_mono hr (Ne.symm hji)) h3.1 ?_) h2
      rw [Array.setIfInBounds_comm _ _ hji]
      exact h3.2
theorem wpAnyL_lex_g {Q : Act → Prop} : ∀ (l : List Oper) (k : Nat) (listed : Array Bool) (b : Act), (∀ j, l[j]? = ops[k + j]?) →
    Region.lexFrom md ops l.length k listed = true → wpLoud_g P ops Z ls V Q l b → wpAnyL_g P md ops Z ls V Q l.length listed b
  | [], _, _, _, _, hB, h => ⟨by simpa [Region.lexFrom] using hB, h⟩
  | o :: l, k, listed, b, hl, hB, h => by
    have h0 : ops[k]? = some o := by simpa using (hl 0).symm
    simp only [List.length_cons, Region.lexFrom, Bool.and_eq_true] at hB
    obtain ⟨⟨hr, hf⟩, hB'⟩ := hB
    have hst : lOp_g P ops Z ls V k (wpLoud_g P ops Z ls V Q l) b := by unfold lOp_g; simp only [h0]; exact h
    obtain ⟨v, hy, hK⟩ := yieldsL_of_g h0 hst
    exact wpAnyL_first_g h0 l.length listed b (Region.free_spec h0 hf) (by simpa using hr) hy
      (wpAnyL_lex_g l (k + 1) _ _ (fun j => by have := hl (j + 1); simpa [Nat.add_assoc, Nat.add_comm 1 j] using this) hB' hK)
def idleB_g (a : Act) (ls : List Tmp) : Bool := ls.all fun k => !isTok (a.eval (.tmp k))
theorem idle_sim_g {a : Act} {w : World} (hI : idleB_g a ls = true) : Sim_g ls V a a w := by
  refine ⟨rfl, rfl, fun k => ⟨fun h1 h2 => ?_, fun _ => rfl⟩⟩
  have h3 := List.all_eq_true.1 hI k (by simpa using h1)
  rw [h2] at h3
  cases h3
theorem wp_region_loud_g (Z : World) (ls : List Tmp) (V : Tmp → Value → World → Prop) {id : Nat} {Q : Exit → Act → World → Prop} {a : Act} {w : World} {l : List Oper} (hm : P.follows .mixedOrders = true) (hB : Region.lexB .any l.toArray = true) (hG : guardsB_g l.toArray ls = true) (hI : idleB_g a ls = true)
    (hV : ∀ k u w w', V k u w → Gro w.heap.size w w' → V k u w') (hC : Gro Z.heap.size Z w.drew)
    (h : wpLoud_g P l.toArray Z ls V (fun b => ∀ a' w', Gro Z.heap.size Z w' → Sim_g ls V b a' w' → Q .normal a' w') l a) : (Code.region id l.toArray true).wp P Q a w := by
  simp only [Region.lexB, Bool.and_eq_true] at hB
  refine wp_region_any hm (wpAny_of_loud_g (Q := fun b => ∀ a' w', Gro Z.heap.size Z w' → Sim_g ls V b a' w' → Q .normal a' w') hV hG (fun b a w h1 h2 h3 => h3 a w h1 h2) _ _ a a _ hC (idle_sim_g hI) ?_)
  · have := wpAnyL_lex_g (P := P) (Z := Z) (ls := ls) (V := V) (md := .any) l 0 (Array.replicate l.toArray.size false) a (by simp) (by simpa using hB.2) h
    simpa using this
/-! the head of a region so, its tail as it stands -/
def wpAnyLT_g (P : Program) (md : Region.Mode) (ops : Array Oper) (Z : World) (ls : List Tmp) (V : Tmp → Value → World → Prop) (n : Nat) (L : Array Bool → Act → Prop) : Nat → Array Bool → Act → Prop
  | 0, listed, b => L listed b
  | f + 1, listed, b => Region.ready md ops listed ≠ [] ∧ ∀ i ∈ Region.ready md ops listed, i < n ∧ lOp_g P ops Z ls V i (wpAnyLT_g P md ops Z ls V n L f (listed.setIfInBounds i true)) b
theorem wpAny_of_loudHead_g {n g : Nat} (hV : ∀ k u w w', V k u w → Gro w.heap.size w w' → V k u w') (hG : guardsB_g ops ls = true) {L : Array Bool → Act → Prop} {Q' : Exit → Act → World → Prop} (hL : ∀ listed b a w, Gro Z.heap.size Z w → Sim_g ls V b a w → L listed b → wpAny P md ops Q' g listed a w) :
    ∀ (f : Nat) (listed : Array Bool) (b a : Act) (w : World), Gro Z.heap.size Z w → Sim_g ls V b a w → wpAnyLT_g P md ops Z ls V n L f listed b → wpAny P md ops Q' (f + g) listed a w
  | 0, listed, b, a, w, hC, hs, h => by rw [Nat.zero_add]; exact hL _ _ _ _ hC hs h
  | f + 1, listed, b, a, w, hC, hs, h => by
    rw [show f + 1 + g = (f + g) + 1 by omega]
    exact ⟨fun h0 => absurd h0 h.1, fun i hi => loudStep_g hV hG (fun b a w => wpAny_of_loudHead_g hV hG hL f _ b a w) hC hs (h.2 i hi).2⟩
theorem wpAnyLT_first_g {n i : Nat} {oi : Oper} {v : Value} {L : Array Bool → Act → Prop} (hi : ops[i]? = some oi)
    (hs : Region.sinkB md ops n = true) (hc : Region.chainB md ops n = true) (hn : n < ops.size) (hin : i < n)
    (hdone : ∀ listed b, L listed b → ∀ j ∈ Region.ready md ops listed, n ≤ j) :
    ∀ (f : Nat) (listed : Array Bool) (b : Act), HeadInv md ops n listed →
      (∀ j oj, ops[j]? = some oj → j ≠ i → listed.getD j true = false → (∀ e ∈ oj.after, Region.binds md e = true → e.on ≠ i) → oi.apart ops oj = true) →
      i ∈ Region.ready md ops listed → YieldsL_g P ops Z ls V oi v b →
      wpAnyLT_g P md ops Z ls V n L f (listed.setIfInBounds i true) (b.put oi.dst v) → wpAnyLT_g P md ops Z ls V n L (f + 1) listed b := by
  intro f
  induction f with
  | zero =>
    intro listed b inv _ hr hy H
    have hun := (mem_ready.1 hr).1
    refine ⟨fun h => (by rw [h] at hr; cases hr), fun j hj => ?_⟩
    have hjn : j < n := by
      rcases Nat.lt_or_ge j n with h | h
      · exact h
      · exact absurd hj (tail_waits hs hc hn inv _ i rfl hin hun j h)
    refine ⟨hjn, ?_⟩
    by_cases hji : j = i
    · subst hji; exact hy.lOp hi H
    · have := hdone _ _ H j (ready_mono hj hji)
      omega
  | succ f ih =>
    intro listed b inv hfree hr hy H
    have hun := (mem_ready.1 hr).1
    refine ⟨fun h => (by rw [h] at hr; cases hr), fun j hj => ?_⟩
    have hjn : j < n := by
      rcases Nat.lt_or_ge j n with h | h
      · exact h
      · exact absurd hj (tail_waits hs hc hn inv _ i rfl hin hun j h)
    refine ⟨hjn, ?_⟩
    by_cases hji : j = i
    · subst hji; exact hy.lOp hi H
    · have h1 := (H.2 j (ready_mono hj hji)).2
      obtain ⟨hjun, oj, hoj, hall⟩ := mem_ready.1 hj
      have hnot : ∀ e ∈ oj.after, Region.binds md e = true → e.on ≠ i := fun e he hb heq => by
        have h1 := hall e he hb
        rw [heq, getD_both hun] at h1
        cases h1
      have h2 := lOp_put_g hoj (hfree j oj hoj hji hjun hnot) hy h1
      have hfree' : ∀ k ok, ops[k]? = some ok → k ≠ i → (listed.setIfInBounds j true).getD k true = false →
          (∀ e ∈ ok.after, Region.binds md e = true → e.on ≠ i) → oi.apart ops ok = true := fun k ok hk hki hun hno => by
        refine hfree k ok hk hki ?_ hno
        by_cases hjk : j = k
        · subst hjk; exact hjun
        · rw [getD_set_ne true hjk] at hun; exact hun
      refine lOp_mono_g (fun b' h3 => ih (listed.setIfInBounds j true) b' (inv.set hj hjn) hfree' (ready_mono hr (Ne.symm hji)) h3.1 ?_) h2
      rw [Array.setIfInBounds_comm _ _ hji]
      exact h3.2
theorem wpAnyLT_lex_g {n g : Nat} {Lq : Act → Prop} (hs : Region.sinkB md ops n = true) (hc : Region.chainB md ops n = true) (hn : n < ops.size) :
    ∀ (l : List Oper) (k : Nat) (listed : Array Bool) (b : Act), (∀ j, j < l.length → l[j]? = ops[k + j]?) → k + l.length = n → HeadInv md ops n listed →
    Region.lexHead md ops g l.length k listed = true → wpLoud_g P ops Z ls V Lq l b →
    wpAnyLT_g P md ops Z ls V n (fun listed' b' => Region.seqB md ops g n listed' = true ∧ Lq b') l.length listed b
  | [], k, listed, b, _, hk, _, hB, h => by
    have : k = n := by simpa using hk
    subst this
    exact ⟨by simpa [Region.lexHead] using hB, h⟩
  | o :: l, k, listed, b, hl, hk, inv, hB, h => by
    have h0 : ops[k]? = some o := by simpa using (hl 0 (by simp)).symm
    simp only [List.length_cons, Region.lexHead, Bool.and_eq_true] at hB
    obtain ⟨⟨hr, hf⟩, hB'⟩ := hB
    have hkn : k < n := by simp only [List.length_cons] at hk; omega
    have hr' : k ∈ Region.ready md ops listed := by simpa using hr
    have hst : lOp_g P ops Z ls V k (wpLoud_g P ops Z ls V Lq l) b := by unfold lOp_g; simp only [h0]; exact h
    obtain ⟨v, hy, hK⟩ := yieldsL_of_g h0 hst
    exact wpAnyLT_first_g h0 hs hc hn hkn (fun listed' a' hL => seqB_ready hL.1) l.length listed b inv (Region.free_spec h0 hf) hr' hy
      (wpAnyLT_lex_g hs hc hn l (k + 1) _ _ (fun j hj => by have := hl (j + 1) (by simp; omega); simpa [Nat.add_assoc, Nat.add_comm 1 j] using this) (by simp only [List.length_cons] at hk; omega) (inv.set hr' hkn) hB' hK)
theorem wp_region_loudTail_g (n : Nat) (Z : World) (ls : List Tmp) (V : Tmp → Value → World → Prop) {id : Nat} {Q : Exit → Act → World → Prop} {a : Act} {w : World} {l : List Oper} (hm : P.follows .mixedOrders = true) (hB : Region.lexTailB .any l.toArray n = true) (hG : guardsB_g l.toArray ls = true) (hI : idleB_g a ls = true)
    (hV : ∀ k u w w', V k u w → Gro w.heap.size w w' → V k u w') (hC : Gro Z.heap.size Z w.drew)
    (h : wpLoud_g P l.toArray Z ls V (fun b => ∀ a' w', Gro Z.heap.size Z w' → Sim_g ls V b a' w' → wpList P l.toArray Q (l.drop n) a' w') (l.take n) a) : (Code.region id l.toArray true).wp P Q a w := by
  simp only [Region.lexTailB, Bool.and_eq_true, decide_eq_true_eq] at hB
  obtain ⟨⟨⟨⟨hsel, hn⟩, hs⟩, hc⟩, hlex⟩ := hB
  have hn' : n < l.length := by simpa using hn
  have htl : (l.take n).length = n := by simp; omega
  have hdl : (l.drop n).length = l.toArray.size - n := by simp
  have inv0 : HeadInv .any l.toArray n (Array.replicate l.toArray.size false) :=
    ⟨by simp, fun j oj _ hl => (by rw [getD_replicate_false] at hl; cases hl), fun t _ ht => getD_in (by simpa using ht) (getD_replicate_false _ _)⟩
  have H := wpAnyLT_lex_g (P := P) (Z := Z) (ls := ls) (V := V) (md := .any) (g := l.toArray.size - n) hs hc hn (l.take n) 0 _ a (fun j hj => by
    have hj' : j < n := by rw [htl] at hj; exact hj
    simp [hj']) (by simpa using htl) inv0 (by rw [htl]; exact hlex) h
  refine wp_region_any hm ?_
  have := wpAny_of_loudHead_g (Q' := Q) (g := l.toArray.size - n) hV hG (fun listed b' a' w' hC' hS hL => by
    have := wpAny_of_seq (md := .any) (Q' := Q) (l.drop n) n listed a' w' (fun j => by simp [List.getElem?_drop]) (by rw [hdl]; exact hL.1) (hL.2 a' w' hC' hS)
    rwa [hdl] at this) _ _ a a w.drew hC (idle_sim_g hI) H
  rw [htl, show n + (l.toArray.size - n) = l.toArray.size by omega] at this
  exact this
/-- the frame with what the loud calls handed back -/
def fill_g (g : Tmp → Value) : List Tmp → Act → Act
  | [], b => b
  | k :: ks, b => fill_g g ks (b.put (some k) (g k))
theorem fill_size_g (g : Tmp → Value) : ∀ (ls : List Tmp) (b : Act), (fill_g g ls b).tmps.size = b.tmps.size ∧ (fill_g g ls b).defers = b.defers
  | [], b => ⟨rfl, rfl⟩
  | k :: ks, b => by
    have := fill_size_g g ks (b.put (some k) (g k))
    exact ⟨this.1.trans (by simp [Act.put]), this.2⟩
theorem fill_eval_g (g : Tmp → Value) (k : Tmp) : ∀ (ls : List Tmp) (b : Act), k < b.tmps.size → (fill_g g ls b).eval (.tmp k) = if ls.contains k then g k else b.eval (.tmp k)
  | [], b, _ => rfl
  | j :: ks, b, hk => by
    have h1 := fill_eval_g g k ks (b.put (some j) (g j)) (by simpa [Act.put] using hk)
    show (fill_g g ks (b.put (some j) (g j))).eval (.tmp k) = _
    rw [h1, eval_put_at_g]
    by_cases h2 : k = j
    · subst h2
      rw [if_pos (c := k = k ∧ _) ⟨rfl, hk⟩]
      simp
    · rw [if_neg (c := k = j ∧ _) (fun h => h2 h.1)]
      have h3 : (j :: ks).contains k = ks.contains k := by
        rw [List.contains_cons]
        have h4 : (k == j) = false := by simpa using h2
        rw [h4]; rfl
      rw [h3]
theorem Sim_g.filled {b a : Act} {w : World} (h : Sim_g ls V b a w) : a = fill_g (fun k => a.eval (.tmp k)) ls b := by
  obtain ⟨s1, s2⟩ := fill_size_g (fun k => a.eval (.tmp k)) ls b
  have ht : a.tmps = (fill_g (fun k => a.eval (.tmp k)) ls b).tmps := by
    apply Array.ext
    · rw [s1, h.sz]
    · intro k h1 h2
      have hk : k < b.tmps.size := by rw [← h.sz]; exact h1
      have h3 := fill_eval_g (fun k => a.eval (.tmp k)) k ls b hk
      have e1 : a.tmps[k] = a.eval (.tmp k) := by simp [Act.eval, h1]
      have e2 : ∀ (c : Act) (h : k < c.tmps.size), c.tmps[k] = c.eval (.tmp k) := fun c h => by simp [Act.eval, h]
      rw [e1, e2, h3]
      cases hc : ls.contains k
      · exact (h.at_ k).2 hc
      · rfl
  have hd : a.defers = (fill_g (fun k => a.eval (.tmp k)) ls b).defers := by rw [s2, h.de]
  generalize fill_g (fun k => a.eval (.tmp k)) ls b = c at *
  cases a
  cases c
  simp only at ht hd
  rw [ht, hd]
theorem wpLoud_end_g {Φ : Act → World → Prop} {b : Act} (need : List Tmp) (hn : (need.all fun k => ls.contains k && isTok (b.eval (.tmp k))) = true)
    (h : ∀ (g : Tmp → Value) (x : ExtG Z), (∀ k ∈ need, V k (g k) x.wd) → Φ (fill_g g ls b) x.wd) : wpLoud_g P ops Z ls V (fun b => ∀ a' w', Gro Z.heap.size Z w' → Sim_g ls V b a' w' → Φ a' w') [] b := by
  intro a' w' hb hs
  rw [hs.filled]
  refine h _ ⟨w', hb⟩ fun k hk => ?_
  have h1 := List.all_eq_true.1 hn k hk
  rw [Bool.and_eq_true] at h1
  exact (hs.at_ k).1 h1.1 (isTok_eq h1.2)
/-! steps -/
variable {Q : Act → Prop} {b : Act} {o : Oper} {rest : List Oper}
theorem wpLoud_skip_g (hw : Region.wanted o (yielded ops b.tmps) = false) (b' : Act) (hb : b.put o.dst undef = b') (h : wpLoud_g P ops Z ls V Q rest b') : wpLoud_g P ops Z ls V Q (o :: rest) b := by
  subst hb
  unfold wpLoud_g
  rw [if_neg (by rw [hw]; exact Bool.false_ne_true)]
  exact h
def plainOp_g : Op → Bool
  | .move _ | .assign _ | .pick _ _ _ | .load _ _ | .binOp _ _ _ _ _ | .unOp _ _ _ | .convert _ _ _ | .fieldAddr _ _ _ | .indexAddr _ _ _ | .extract _ _ | .slice _ _ _ _ _ | .index _ _ _ | .field _ _ _ => true
  | _ => false
def quietB_g (ops : Array Oper) (ls : List Tmp) (o : Oper) : Bool := (o.looksAt ops).all (fun k => !ls.contains k) && (match o.dst with | some d => !ls.contains d | none => true)
theorem notEnter_g {α : Type} (s : Sem α) (g : α → Value) (w w' : World) (f : FuncId) (args : Array Value) : ((do pure (.value (g (← s))) : Sem Next)).run P w ≠ .ok (.enter f args) w' := by
  rw [Sem.run_bind]
  cases s.run P w with
  | ok u w1 => simp [Result.andThen]
  | halt x w1 => simp [Result.andThen]
theorem plain_run_g {ρ : Operand → Value} (hp : plainOp_g o.op = true) (w w' : World) (f : FuncId) (args : Array Value) : (execOp ρ o).run P w ≠ .ok (.enter f args) w' := by
  obtain ⟨dst, op, type, pos, after, guard⟩ := o
  cases op <;> simp only [plainOp_g] at hp <;> (try cases hp)
  case move x => simp [execOp]
  case assign x => simp [execOp]
  case pick c x y => exact notEnter_g (asBool (ρ c)) (fun t => if t then ρ x else ρ y) w w' f args
  all_goals exact notEnter_g _ (fun t => t) w w' f args
theorem simAt_eval_g {b a : Act} {w : World} (hq : quietB_g ops ls o = true) (hs : ∀ k ∈ o.looksAt ops, SimAt_g ls V b a w k) : ∀ x ∈ o.op.operands, a.eval x = b.eval x := fun x hx => by
  unfold quietB_g at hq
  rw [Bool.and_eq_true] at hq
  cases x with
  | tmp k =>
    have hk : k ∈ o.looksAt ops := List.mem_append_left _ (List.mem_filterMap.2 ⟨.tmp k, by simpa using hx, rfl⟩)
    have h1 := List.all_eq_true.1 hq.1 k hk
    exact (hs k hk).2 (by simpa using h1)
  | const v => rfl
  | global v => rfl
  | func v => rfl
theorem quietB_dst_g (hq : quietB_g ops ls o = true) : ∀ d, o.dst = some d → ls.contains d = false := fun d hd => by
  unfold quietB_g at hq
  rw [Bool.and_eq_true, hd] at hq
  simpa using hq.2
theorem wpLoud_val_g (hw : Region.wanted o (yielded ops b.tmps) = true) (hq : quietB_g ops ls o = true) (hsel : ∀ cs t, o.op ≠ .select cs t) (v : Value) (hr : ∀ x : ExtG Z, (execOp b.eval o).run P x.wd = .ok (.value v) x.wd)
    (b' : Act) (hb : b.put o.dst v = b') (h : wpLoud_g P ops Z ls V Q rest b') : wpLoud_g P ops Z ls V Q (o :: rest) b := by
  subst hb
  unfold wpLoud_g
  rw [if_pos hw]
  refine ⟨v, fun a w hC hs => ?_, h⟩
  rw [execOp_congr o hsel (simAt_eval_g hq hs), show (execOp b.eval o).run P w = .ok (.value v) w from hr ⟨w, hC⟩]
  exact .inl ⟨rfl, rfl, quietB_dst_g hq⟩
theorem wpLoud_plain_g (hw : Region.wanted o (yielded ops b.tmps) = true) (hq : quietB_g ops ls o = true) (hp : plainOp_g o.op = true)
    (h : ∀ K : Act → Prop, (∀ b, wpLoud_g P ops Z ls V Q rest b → K b) → o.quiet P b (fun w => ∃ x : ExtG Z, w = x.wd) K) : wpLoud_g P ops Z ls V Q (o :: rest) b := by
  unfold wpLoud_g
  rw [if_pos hw]
  obtain ⟨v, h1, h2⟩ := h _ (fun _ h => h)
  refine ⟨v, fun a w hC hs => ?_, h2⟩
  have hsel : ∀ cs t, o.op ≠ .select cs t := fun cs t he => by rw [he] at hp; cases hp
  have h3 := h1 w ⟨⟨w, hC⟩, rfl⟩
  rw [execOp_congr o hsel (simAt_eval_g hq hs)]
  unfold Oper.quietAt at h3
  have hne := plain_run_g (P := P) (ρ := b.eval) hp w
  have hnk : ∀ w', (execOp b.eval o).run P w ≠ .ok .skip w' := by
    obtain ⟨dst, op, type, pos, after, guard⟩ := o
    have key : ∀ {α : Type} (s : Sem α) (g : α → Value) (w' : World), ((do pure (.value (g (← s))) : Sem Next)).run P w ≠ .ok .skip w' := by
      intro α s g w'
      rw [Sem.run_bind]
      cases s.run P w with
      | ok u w1 => simp [Result.andThen]
      | halt x w1 => simp [Result.andThen]
    intro w'
    cases op <;> simp only [plainOp_g] at hp <;> (try cases hp)
    case move x => simp [execOp]
    case assign x => simp [execOp]
    case pick c x y => exact key (asBool (b.eval c)) (fun t => if t then b.eval x else b.eval y) w'
    all_goals exact key _ (fun t => t) w'
  generalize (execOp b.eval o).run P w = r at *
  cases r with
  | ok n w' =>
    cases n <;> simp only [Oper.quietUpon] at h3
    case value u => exact .inl ⟨h3.1, h3.2, quietB_dst_g hq⟩
    case skip => exact absurd rfl (hnk w')
    case enter f args => exact absurd rfl (hne w' f args)
  | halt x w' => simp only [Oper.quietUpon] at h3
theorem wpLoud_load_g (hw : Region.wanted o (yielded ops b.tmps) = true) (hq : quietB_g ops ls o = true) (ty : TypeId) (x : Operand) (ho : o.op = .load ty x) (n off : Nat) (hx : b.eval x = .pointer (some ⟨n, off, none⟩)) (cs : List Value) (d : TypeDesc)
    (hc : ∀ y : ExtG Z, y.wd.rangeAt n off cs) (hu : P.underlying ty = some d) (hd : d.isRow = true) (hi : (P.info? ty).map (·.size) = some cs.length)
    (b' : Act) (hb : b.put o.dst (.agg cs.toArray) = b') (h : wpLoud_g P ops Z ls V Q rest b') : wpLoud_g P ops Z ls V Q (o :: rest) b :=
  wpLoud_val_g hw hq (fun cs t he => by rw [ho] at he; cases he) _ (fun y => by
    unfold execOp
    simp only [ho, hx, Instr.loadAt, Instr.sureAddr, Sem.run_bind, Sem.run_pure, Result.andThen_ok, run_loadVar_mid y.wd n off ty cs d (hc y) hu hd hi]) b' hb h
/-- an operation that makes memory -/
theorem wpLoud_make_g (hw : Region.wanted o (yielded ops b.tmps) = true) (hsel : ∀ cs t, o.op ≠ .select cs t) (hq : ((o.looksAt ops).all fun k => !ls.contains k) = true) (d : Tmp) (hd : o.dst = some d) (hl : ls.contains d = true)
    (hr : ∀ x : ExtG Z, ∃ u w', (execOp b.eval o).run P x.wd = .ok (.value u) w' ∧ Gro x.wd.heap.size x.wd w' ∧ V d u w')
    (b' : Act) (hb : b.put o.dst tok = b') (h : wpLoud_g P ops Z ls V Q rest b') : wpLoud_g P ops Z ls V Q (o :: rest) b := by
  subst hb
  unfold wpLoud_g
  rw [if_pos hw]
  refine ⟨tok, fun a w hC hs => ?_, h⟩
  have he : ∀ x ∈ o.op.operands, a.eval x = b.eval x := fun x hx => by
    cases x with
    | tmp k =>
      have hk : k ∈ o.looksAt ops := List.mem_append_left _ (List.mem_filterMap.2 ⟨.tmp k, by simpa using hx, rfl⟩)
      exact (hs k hk).2 (by simpa using List.all_eq_true.1 hq k hk)
    | const v => rfl
    | global v => rfl
    | func v => rfl
  obtain ⟨u, w', h1, h2, h3⟩ := hr ⟨w, hC⟩
  rw [execOp_congr o hsel he, show (execOp b.eval o).run P w = .ok (.value u) w' from h1]
  exact .inr ⟨h2, fun d' hd' => by rw [hd] at hd'; injection hd' with hd'; subst hd'; exact ⟨hl, h3⟩⟩
/-- what a loud call handed back, moved -/
theorem wpLoud_move_g (hw : Region.wanted o (yielded ops b.tmps) = true) (k d : Tmp) (ho : o.op = .assign (.tmp k) ∨ o.op = .move (.tmp k)) (hd : o.dst = some d) (hk : ls.contains k = true) (hl : ls.contains d = true) (ht : isTok (b.eval (.tmp k)) = true) (hV : ∀ u w, V k u w → V d u w)
    (b' : Act) (hb : b.put o.dst tok = b') (h : wpLoud_g P ops Z ls V Q rest b') : wpLoud_g P ops Z ls V Q (o :: rest) b := by
  subst hb
  unfold wpLoud_g
  rw [if_pos hw]
  refine ⟨tok, fun a w hC hs => ?_, h⟩
  have hrun : (execOp a.eval o).run P w = .ok (.value (a.eval (.tmp k))) w := by
    rcases ho with ho | ho <;> · unfold execOp; simp only [ho, Sem.run_pure]
  have hm : k ∈ o.looksAt ops := by
    unfold Oper.looksAt
    rcases ho with ho | ho <;> · rw [ho]; simp [Op.operands]
  have hv := (hs k hm).1 hk (isTok_eq ht)
  rw [hrun]
  exact .inr ⟨Gro.refl _ _, fun d' hd' => by rw [hd] at hd'; injection hd' with hd'; subst hd'; exact ⟨hl, hV _ _ hv⟩⟩
theorem wpLoud_loadB_g (hw : Region.wanted o (yielded ops b.tmps) = true) (hq : quietB_g ops ls o = true) (ty : TypeId) (x : Operand) (ho : o.op = .load ty x) (n off : Nat) (hx : b.eval x = .pointer (some ⟨n, off, none⟩)) (cs : Array Value) (d : TypeDesc)
    (hc : ∀ y : ExtG Z, y.wd.rangeAt n off cs.toList) (hu : P.underlying ty = some d) (hd : d.isRow = true) (hi : (P.info? ty).map (·.size) = some cs.toList.length)
    (b' : Act) (hb : b.put o.dst (.agg cs) = b') (h : wpLoud_g P ops Z ls V Q rest b') : wpLoud_g P ops Z ls V Q (o :: rest) b :=
  wpLoud_load_g hw hq ty x ho n off hx cs.toList d hc hu hd hi b' (by rw [Array.toArray_toList]; exact hb) h
def over_g (ls : List Tmp) (b : Act) (g : Tmp → Value) : Operand → Value
  | .tmp k => if ls.contains k then g k else b.eval (.tmp k)
  | x => b.eval x
/-- a call, by its contract -/
theorem wpLoud_call_g (d : Tmp) (hd : o.dst = some d) (need : List Tmp) (v : Value) (f : FuncId) (args : (Tmp → Value) → Array Value) (hw : Region.wanted o (yielded ops b.tmps) = true) (hsel : ∀ cs t, o.op ≠ .select cs t)
    (hn : (need.all fun k => ls.contains k && ((o.looksAt ops).contains k && isTok (b.eval (.tmp k)))) = true)
    (hrun : ∀ (g : Tmp → Value) w, (execOp (over_g ls b g) o).run P w = .ok (.enter f (args g)) w)
    (hc : ∀ (g : Tmp → Value) (x : ExtG Z), (∀ k ∈ need, V k (g k) x.wd) → Calls P f (args g) x.wd fun e w'' => ∃ u, e = .returned u ∧ Gro x.wd.heap.size x.wd w'' ∧ (if ls.contains d then V d u w'' else u = v))
    (b' : Act) (hb : b.put o.dst v = b') (h : wpLoud_g P ops Z ls V Q rest b') : wpLoud_g P ops Z ls V Q (o :: rest) b := by
  subst hb
  unfold wpLoud_g
  rw [if_pos hw]
  refine ⟨v, fun a w hC hs => ?_, h⟩
  have he : ∀ x ∈ o.op.operands, a.eval x = over_g ls b (fun k => a.eval (.tmp k)) x := fun x hx => by
    cases x with
    | tmp k =>
      have hk : k ∈ o.looksAt ops := List.mem_append_left _ (List.mem_filterMap.2 ⟨.tmp k, by simpa using hx, rfl⟩)
      show _ = if ls.contains k then _ else _
      cases hcn : ls.contains k
      · exact (hs k hk).2 hcn
      · rfl
    | const v => rfl
    | global v => rfl
    | func v => rfl
  rw [execOp_congr o hsel he, hrun]
  refine ⟨rfl, (hc _ ⟨w, hC⟩ fun k hk => ?_).mono ?_⟩
  · have h1 := List.all_eq_true.1 hn k hk
    simp only [Bool.and_eq_true] at h1
    exact (hs k (by simpa using h1.2.1)).1 h1.1 (isTok_eq h1.2.2)
  · rintro e w'' ⟨u, h1, h2, h3⟩
    refine ⟨u, h1, h2, fun d' hd' => ?_⟩
    rw [hd] at hd'
    injection hd' with hd'
    subst hd'
    exact ⟨fun h4 => by rwa [if_pos h4] at h3, fun h4 => by rwa [if_neg (by rw [h4]; exact Bool.false_ne_true)] at h3⟩
end
end Go.Proofs.YtbgnjjbmidkhlaaDoor
/- Contracts: comparisons of numbers, cmp.Or; loads from any address. -/
namespace Go.Proofs.YtbgnjjbmidkhlaaDoor
set_option linter.unusedVariables false
set_option linter.unusedSimpArgs false
set_option maxRecDepth 100000
open Go.RowKit
set_option linter.unusedVariables false
set_option linter.unusedSimpArgs false
def cmpI (x y : Int) : Int := if x < y then -1 else if y < x then 1 else 0
theorem nan_int (x : Int) (w : World) : Calls Tryd.prog 49 #[.int .i64 x] w fun e w' => e = .returned (.bool false) ∧ w = w' := by
  have t0 : (x != x) = false := by simp
  go_enter Tryd.func49, Tryd.ntmps49
  go_wp2
  go_ret
  exact ⟨rfl, rfl⟩
theorem cmp_int (x y : Int) (w : World) : Calls Tryd.prog 31 #[.int .i64 x, .int .i64 y] w fun e w' => e = .returned (.int .i64 (cmpI x y)) ∧ w = w' := by
  unfold cmpI
  by_cases h1 : x < y
  · rw [if_pos h1]
    have d1 : decide (x < y) = true := decide_eq_true h1
    clear h1
    go_enter Tryd.func31, Tryd.ntmps31
    go_wp2_with (go_at_call 49; (refine (nan_int _ _).mono ?_); rintro e w' ⟨rfl, rfl⟩)
    go_ret
    exact ⟨rfl, rfl⟩
  · rw [if_neg h1]
    have d1 : decide (x < y) = false := decide_eq_false h1
    by_cases h2 : y < x
    · rw [if_pos h2]
      have d2 : decide (y < x) = true := decide_eq_true h2
      clear h1 h2
      go_enter Tryd.func31, Tryd.ntmps31
      go_wp2_with (go_at_call 49; (refine (nan_int _ _).mono ?_); rintro e w' ⟨rfl, rfl⟩)
      go_ret
      exact ⟨rfl, rfl⟩
    · rw [if_neg h2]
      have d2 : decide (y < x) = false := decide_eq_false h2
      clear h1 h2
      go_enter Tryd.func31, Tryd.ntmps31
      go_wp2_with (go_at_call 49; (refine (nan_int _ _).mono ?_); rintro e w' ⟨rfl, rfl⟩)
      go_ret
      exact ⟨rfl, rfl⟩
theorem nan_u64 (x : Int) (w : World) : Calls Tryd.prog 34 #[.int .u64 x] w fun e w' => e = .returned (.bool false) ∧ w = w' := by
  have t0 : (x != x) = false := by simp
  go_enter Tryd.func34, Tryd.ntmps34
  go_wp2
  go_ret
  exact ⟨rfl, rfl⟩
theorem cmp_u64 (x y : Int) (w : World) : Calls Tryd.prog 21 #[.int .u64 x, .int .u64 y] w fun e w' => e = .returned (.int .i64 (cmpI x y)) ∧ w = w' := by
  unfold cmpI
  by_cases h1 : x < y
  · rw [if_pos h1]
    have d1 : decide (x < y) = true := decide_eq_true h1
    clear h1
    go_enter Tryd.func21, Tryd.ntmps21
    go_wp2_with (go_at_call 34; (refine (nan_u64 _ _).mono ?_); rintro e w' ⟨rfl, rfl⟩)
    go_ret
    exact ⟨rfl, rfl⟩
  · rw [if_neg h1]
    have d1 : decide (x < y) = false := decide_eq_false h1
    by_cases h2 : y < x
    · rw [if_pos h2]
      have d2 : decide (y < x) = true := decide_eq_true h2
      clear h1 h2
      go_enter Tryd.func21, Tryd.ntmps21
      go_wp2_with (go_at_call 34; (refine (nan_u64 _ _).mono ?_); rintro e w' ⟨rfl, rfl⟩)
      go_ret
      exact ⟨rfl, rfl⟩
    · rw [if_neg h2]
      have d2 : decide (y < x) = false := decide_eq_false h2
      clear h1 h2
      go_enter Tryd.func21, Tryd.ntmps21
      go_wp2_with (go_at_call 34; (refine (nan_u64 _ _).mono ?_); rintro e w' ⟨rfl, rfl⟩)
      go_ret
      exact ⟨rfl, rfl⟩
theorem heap2P (w : World) (a b : Obj) : ((((w.alloc a).alloc b))).heap[w.heap.size + 1]? = some b := by
  have h := heap_alloc_new (w.alloc a) b
  have e : (w.alloc a).heap.size = w.heap.size + 1 := by simp
  rw [e] at h
  exact h
def orL : List Int → Int
  | [] => 0
  | x :: l => if x = 0 then orL l else x
def ints (l : List Int) : List Value := l.map fun x => .int .i64 x
def IntsAt (w : World) (g : Nat) (l : List Int) : Prop := Blk w g 3 (ints l).toArray
theorem IntsAt.at_ {w : World} {g : Nat} {l : List Int} (h : IntsAt w g l) (i : Nat) (hi : i < l.length) : w.cell? ⟨g, i, none⟩ = some (.int .i64 (l.getD i 0)) := by
  refine (Blk.cell h i).trans ?_
  simp [ints, List.getD_eq_getElem?_getD, hi]
theorem or_c (g c : Nat) (l : List Int) (w : World) (h : IntsAt w g l) (hl : l.length ≤ 100) :
    Calls Tryd.prog 30 #[.slice (some ⟨g, 0, none⟩) l.length c] w fun e w' => e = .returned (.int .i64 (orL l)) ∧ w = w' := by
  have HH := Lib.hid h
  clear h
  go_enter Tryd.func30, Tryd.ntmps30
  go_wp2
  go_loop [8] (fun i => ∃ k : Nat, k ≤ l.length ∧ i = .int .i64 k ∧ orL l = orL (l.drop k)) (fun i => l.length - (intOf i).toNat)
  case atStart => exact ⟨0, Nat.zero_le _, rfl, rfl⟩
  case round =>
    obtain ⟨k, hk, rfl, hd⟩ := hrel
    have HD := Lib.hid hd
    clear hd
    by_cases hlt : k < l.length
    · have e0 := HH.out.at_ k hlt
      have HDK := Lib.hid (show l.drop k = l.getD k 0 :: l.drop (k + 1) by rw [List.drop_eq_getElem_cons hlt]; simp [List.getD_eq_getElem?_getD, hlt])
      generalize l.getD k 0 = x at *
      have p1 : (k : Int) < (l.length : Int) := by omega
      by_cases hx : x = 0
      · subst hx
        go_wp2
        go_round
        case rel => exact ⟨k + 1, by omega, by go_num, by rw [HD.out, HDK.out]; rfl⟩
        case measure => simp [intOf]; omega
      · have t0 : (x != 0) = true := by rw [bne_iff_ne]; exact hx
        have HX := Lib.hid hx
        clear hx
        go_wp2
        go_ret
        exact ⟨by rw [HD.out, HDK.out, orL, if_neg HX.out]; rfl, rfl⟩
    · obtain rfl : k = l.length := by omega
      go_wp2
      go_ret
      exact ⟨by rw [HD.out, List.drop_length]; rfl, rfl⟩
theorem intInfo : (Tryd.prog.info? 3).map (fun i => (i.zero, i.size, i.bytes)) = some (some (.int .i64 0), 1, 8) := by kernel_rfl
theorem run_ints (w : World) (l : List Int) {o : Oper} {ρ : Operand → Value} (xs : Array (Nat × Operand)) (ho : o.op = .buildSlice 25 l.length xs)
    (hx : (xs.map fun (p : Nat × Operand) => (p.1, ρ p.2)).toList = (((ints l).zipIdx 0).map fun x => (x.2, x.1))) (hlen : l.length ≤ 1000) (hpos : 0 < l.length) :
    (execOp ρ o).run Tryd.prog w = .ok (.value (.slice (some ⟨w.heap.size, 0, none⟩) l.length l.length)) (w.alloc (.cells (ints l).toArray 3)) := by
  obtain ⟨i0, hi, hz0, hz1, hz2⟩ := info_parts intInfo
  have h1 := run_buildSlice (P := Tryd.prog) w 25 3 l.length (xs.map fun (p : Nat × Operand) => (p.1, ρ p.2)) (ints l).toArray i0 _ Tryd.underlying25 hi hz0 (by rw [hz1]; omega) (by rw [hz1]; omega) (by
    rw [hz1]
    refine (congrArg _ hx).trans ?_
    exact (Great.fill_flat (ints l) _ (fun v hv => by
      obtain ⟨p, _, rfl⟩ := List.mem_map.1 hv
      rfl) (by simp [ints])))
  unfold execOp
  simp only [ho, Sem.run_bind, h1, Result.andThen_ok]
  rfl
def IntsV (l : List Int) (u : Value) (W : World) : Prop := ∃ g, u = .slice (some ⟨g, 0, none⟩) l.length l.length ∧ IntsAt W g l
theorem IntsV.next {l : List Int} {u : Value} {W W' : World} (h : IntsV l u W) (hb : Below W.heap.size W W') : IntsV l u W' := by
  obtain ⟨g, e, h⟩ := h
  exact ⟨g, e, Blk.below h hb (Blk.lt h)⟩
theorem IntsV.or_ {l : List Int} {u : Value} {W : World} (h : IntsV l u W) (hl : l.length ≤ 100) : Calls Tryd.prog 30 #[u] W fun e w' => e = .returned (.int .i64 (orL l)) ∧ W = w' := by
  obtain ⟨g, rfl, h⟩ := h
  exact or_c g _ l W h hl
def AtA (w : World) (a : Addr) (cs : List Value) : Prop := ∀ j v, cs[j]? = some v → w.cell? (a.add j) = some v
theorem AtA.drop {w : World} {a : Addr} {cs : List Value} (h : AtA w a cs) (k n : Nat) : AtA w (a.add k) ((cs.drop k).take n) := fun j v hv => by
  rw [Addr.add_add]
  have hj : j < n := by
    rcases Nat.lt_or_ge j n with h1 | h1
    · exact h1
    · rw [List.getElem?_eq_none (by rw [List.length_take]; omega)] at hv; cases hv
  rw [List.getElem?_take_of_lt hj, List.getElem?_drop] at hv
  exact h (k + j) v hv
theorem AtA.below {w w' : World} {a : Addr} {cs : List Value} {B : Nat} (h : AtA w a cs) (hb : Below B w w') (ha : a.block < B) : AtA w' a cs := fun j v hv =>
  (hb.cell (by rw [add_block]; exact ha)).trans (h j v hv)
section
variable {P : Program}
theorem run_loadVar_at (w : World) (a : Addr) (ty : TypeId) (cs : List Value) (d : TypeDesc) (hc : AtA w a cs)
    (hu : P.underlying ty = some d) (hd : d.isRow = true) (hi : (P.info? ty).map (·.size) = some cs.length) :
    (loadVar ty a).run P w = .ok (.agg cs.toArray) w := by
  have hl : (loadCells a cs.length).run P w = .ok cs.toArray w := run_loadCells_list (P := P) w a cs hc
  cases hq : P.info? ty with
  | none => simp [hq] at hi
  | some i =>
    have hs : i.size = cs.length := by simpa [hq] using hi
    have hagg : (isAgg ty).run P w = .ok true w := by
      unfold isAgg
      rw [Sem.run_bind, run_underlying hu w]
      cases d <;> simp_all
    simp [loadVar, Sem.run_bind, hagg, sizeOf, typeInfo, hq, hs, hl]
end
section
variable {P : Program}
theorem wpList_loadA {ops : Array Oper} {rest : List Oper} {op : Oper} {a : Act} {w : World} {Q : Exit → Act → World → Prop} (hw : Region.wanted op (yielded ops a.tmps) = true) (ty : TypeId) (x : Operand) (ho : op.op = .load ty x)
    (b : Addr) (hx : a.eval x = .pointer (some b)) (l : List Value) (d : TypeDesc) (hc : AtA w b l)
    (hu : P.underlying ty = some d) (hd : d.isRow = true) (hi : (P.info? ty).map (·.size) = some l.length)
    (h : wpList P ops Q rest (a.put op.dst (.agg l.toArray)) w) : wpList P ops Q (op :: rest) a w :=
  wpList_valG hw _ (by
    unfold execOp
    simp only [ho, hx, Instr.loadAt, Instr.sureAddr, Sem.run_bind, Sem.run_pure, Result.andThen_ok, run_loadVar_at w b ty l d hc hu hd hi]) h
end
theorem cell_extG {Z : World} {a : Addr} {v : Value} (h : Z.cell? a = some v) : ∀ x : ExtG Z, x.wd.cell? a = some v := fun x => cell_ext h ⟨x.1, x.2.toBelow⟩
theorem IntsV.nextG {l : List Int} {u : Value} {W W' : World} (h : IntsV l u W) (hb : Gro W.heap.size W W') : IntsV l u W' := h.next hb.toBelow
end Go.Proofs.YtbgnjjbmidkhlaaDoor
/- A ring's points in memory, their order: plain. -/
namespace Go.Proofs.YtbgnjjbmidkhlaaDoor
set_option linter.unusedVariables false
set_option linter.unusedSimpArgs false
set_option maxRecDepth 100000
open Go.RowKit
open Go.Sort (SWO PermIn SortedIn)
set_option linter.unusedVariables false
set_option linter.unusedSimpArgs false
def ptL (p : Pt) : List Value := [.int .u64 (p.1 : Int), .int .i64 (p.2 : Int)]
def ptV (p : Pt) : Array Value := #[.int .u64 (p.1 : Int), .int .i64 (p.2 : Int)]
def pts (l : List Pt) : List Value := flatE ptL l
theorem ptL_len (p : Pt) : (ptL p).length = 2 := rfl
theorem pts_cons (p : Pt) (l : List Pt) : pts (p :: l) = ptL p ++ pts l := flatE_cons _ _ _
theorem pts_app : ∀ (l m : List Pt), pts (l ++ m) = pts l ++ pts m
  | [], m => by simp [pts, flatE]
  | p :: l, m => by rw [List.cons_append, pts_cons, pts_cons, pts_app l m, List.append_assoc]
theorem pts_len (l : List Pt) : (pts l).length = l.length * 2 := flatE_len _ _ ptL_len l
theorem pts_oneCell (l : List Pt) : ∀ u ∈ pts l, u.oneCell' = true := by
  induction l with
  | nil => intro u hu; simp [pts, flatE] at hu
  | cons p l ih =>
    intro u hu
    rw [pts_cons] at hu
    rcases List.mem_append.1 hu with h | h
    · simp [ptL] at h
      rcases h with rfl | rfl <;> rfl
    · exact ih u h
theorem pts_drop : ∀ (l : List Pt) (n : Nat), pts (l.drop n) = (pts l).drop (n * 2)
  | [], n => by simp [pts, flatE]
  | p :: l, 0 => by simp
  | p :: l, n + 1 => by
    rw [List.drop_succ_cons, pts_drop l n, pts_cons, show (n + 1) * 2 = (ptL p).length + n * 2 by rw [ptL_len]; omega, List.drop_length_add_append]
def zT : Array Value := #[.int .u64 0, .int .i64 0]
theorem zero_pt (w : World) : (zeroValue 44).run Tryd.prog w = .ok (.agg zT) w := by kernel_rfl
theorem ptLn (p : Pt) : (Tryd.prog.info? 44).map (·.size) = some (ptL p).length := by
  show _ = some 2
  kernel_rfl
theorem ptInfo (p : Pt) : (Tryd.prog.info? 44).map (·.size) = some (ptV p).size := by
  show _ = some 2
  kernel_rfl
theorem ptV_one (p : Pt) : (ptV p).all (·.oneCell') = true := by simp [ptV, Value.oneCell']
theorem pointInfo : (Tryd.prog.info? 44).map (fun i => (i.zero, i.size, i.bytes)) = some (some (.agg zT), 2, 16) := by kernel_rfl
theorem point_parts : ∃ i, Tryd.prog.info? 44 = some i ∧ i.zero = some (.agg zT) ∧ i.size = 2 ∧ i.bytes = 16 := by
  have h := pointInfo
  cases hi : Tryd.prog.info? 44 with
  | none => rw [hi] at h; cases h
  | some i =>
    rw [hi] at h
    simp only [Option.map_some, Option.some.injEq, Prod.mk.injEq] at h
    exact ⟨i, rfl, h.1, h.2.1, h.2.2⟩
/-- points that lie in memory -/
def RdT (w : World) (B : Nat) (A : Option Addr) (l : List Pt) : Prop := Rd w B A (pts l)
theorem RdT.open_ {w : World} {B : Nat} {A : Option Addr} {l : List Pt} (h : RdT w B A l) (hn : 0 < l.length) : ∃ ad, A = some ad ∧ ad.block < B ∧ AtA w ad (pts l) := by
  obtain ⟨ad, rfl, hb, hc⟩ := (show Rd w B A (pts l) from h) (by intro h0; have := congrArg List.length h0; rw [pts_len] at this; simp at this; omega)
  exact ⟨ad, rfl, hb, hc⟩
def pt0 : Pt := (0, 0)
theorem AtA.point {w : World} {ad : Addr} {l : List Pt} (h : AtA w ad (pts l)) (i : Nat) (hi : i < l.length) : AtA w (ad.add (i * 2)) (ptL (l.getD i pt0)) := by
  have h1 := h.drop (i * 2) 2
  have e : ((pts l).drop (i * 2)).take 2 = ptL (l.getD i pt0) := by
    rw [← pts_drop, List.drop_eq_getElem_cons hi, pts_cons]
    simp [ptL, List.getD_eq_getElem?_getD, hi]
  rwa [e] at h1
theorem AtA.ptBlk {w : World} {g : Nat} {T : TypeId} {p : Pt} (h : Blk w g T (ptV p)) : AtA w ⟨g, 0, none⟩ (ptL p) := fun j v hv => by
  rw [Addr.add_mid, Nat.zero_add]
  refine (h.cell j).trans ?_
  rw [← hv]
  exact List.getElem?_toArray
theorem AtA.at_ {w : World} {a : Addr} {p : Pt} (h : AtA w a (ptL p)) : w.cell? a = some (.int .u64 (p.1 : Int)) := by
  have := h 0 _ rfl
  rwa [show a.add 0 = a by simp [Addr.add]] at this
theorem AtA.nod {w : World} {a : Addr} {p : Pt} (h : AtA w a (ptL p)) : w.cell? ⟨a.block, a.off + 1, none⟩ = some (.int .i64 (p.2 : Int)) := h 1 _ rfl
def OwnT (w : World) (base : Nat) (v : Value) (l : List Pt) : Prop := w.ownsRow base 44 2 v l.length (pts l)
theorem OwnT.rd {w : World} {base : Nat} {v : Value} {l : List Pt} (h : OwnT w base v l) : ∃ A cap, v = .slice A l.length cap ∧ l.length ≤ cap ∧ cap ≤ maxLen ∧ RdT w w.heap.size A l := own_rd h
theorem OwnT.next {w w' : World} {base : Nat} {v : Value} {l : List Pt} (h : OwnT w base v l) (hb : Below w.heap.size w w') : OwnT w' base v l := own_keep (S := fun _ => False) h (Only.of_below hb) (fun _ _ h => h)
theorem OwnT.allocT {w : World} {base : Nat} {v : Value} {l : List Pt} (h : OwnT w base v l) (o : Obj) : OwnT (w.alloc o) base v l := World.ownsRow.alloc h o
theorem OwnT.off {w w' : World} {base : Nat} {v : Value} {l : List Pt} {S : Nat → Prop} (h : OwnT w base v l) (ho : Only S w w') (hS : ∀ g, v.ownBlock = some g → ¬ S g) : OwnT w' base v l := own_keep h ho (fun g hg hs => hS g hg hs)
theorem OwnT.nil_ (w : World) (base : Nat) : OwnT w base (.slice none 0 0) [] := ⟨rfl, .inl ⟨rfl, rfl⟩⟩
theorem OwnT.app {w w' : World} {base : Nat} {v v' : Value} {l m : List Pt} (h : Apped w base 44 2 v w' v' (l.length + m.length) (pts l ++ pts m)) : OwnT w' base v' (l ++ m) := by
  have h1 := h.own
  unfold OwnT
  rw [List.length_append, pts_app]
  exact h1
/-! their order -/
def cmpT (p q : Pt) : Int := orL [cmpI p.1 q.1, cmpI p.2 q.2]
theorem orL2_negT (a b : Int) : orL [a, b] < 0 ↔ a < 0 ∨ (a = 0 ∧ b < 0) := by
  simp only [orL]
  split <;> (try split) <;> omega
theorem cmpI_negT (x y : Int) : cmpI x y < 0 ↔ x < y := by unfold cmpI; split <;> (try split) <;> omega
theorem cmpI_zeroT (x y : Int) : cmpI x y = 0 ↔ x = y := by unfold cmpI; split <;> (try split) <;> omega
theorem cmpT_neg (p q : Pt) : cmpT p q < 0 ↔ p.1 < q.1 ∨ (p.1 = q.1 ∧ p.2 < q.2) := by
  unfold cmpT
  rw [orL2_negT, cmpI_negT, cmpI_zeroT, cmpI_negT]
  omega
theorem cmpT_swo : SWO (ltOf cmpT) where
  irrefl x := by
    unfold ltOf
    rw [decide_eq_false_iff_not, cmpT_neg]
    omega
  trans x y z h1 h2 := by
    unfold ltOf at *
    rw [decide_eq_true_iff, cmpT_neg] at *
    omega
  ntrans x y z h1 h2 := by
    unfold ltOf at *
    rw [decide_eq_false_iff_not, cmpT_neg] at *
    omega
/-- what the sort leaves: sorted, the same points -/
theorem sorted_pts {l : List Pt} {d' : Array Pt} (hp : PermIn 0 l.toArray.size l.toArray d') (hs : SortedIn (ltOf cmpT) 0 l.toArray.size d') : SortR d'.toList ∧ d'.toList.Perm l := by
  obtain ⟨h1, _, h3⟩ := hp
  have e1 : d'.extract 0 l.toArray.size = d' := by rw [← h1]; simp
  have e2 : l.toArray.extract 0 l.toArray.size = l.toArray := by simp
  rw [e1, e2] at h3
  refine ⟨?_, h3⟩
  unfold SortR
  rw [List.pairwise_iff_getElem]
  intro i j hi hj hij
  have hi' : i < d'.size := by simpa using hi
  have hj' : j < d'.size := by simpa using hj
  have hlt := hs i j (Nat.zero_le _) hij (by rw [← h1]; exact hj')
  rw [getElem!_pos d' i hi', getElem!_pos d' j hj'] at hlt
  unfold ltOf at hlt
  rw [decide_eq_false_iff_not, cmpT_neg] at hlt
  unfold ptLe
  simp only [Array.getElem_toList]
  omega
end Go.Proofs.YtbgnjjbmidkhlaaDoor
/- Contracts: ring.compare; slices.SortFunc at points. -/
namespace Go.Proofs.YtbgnjjbmidkhlaaDoor
set_option linter.unusedVariables false
set_option linter.unusedSimpArgs false
set_option maxRecDepth 100000
open Go.RowKit
open Go.Sort (SWO PermIn SortedIn)
set_option linter.unusedVariables false
set_option linter.unusedSimpArgs false
set_option maxRecDepth 100000 in
set_option maxHeartbeats 4000000 in
theorem comparet_g (n d n2 d2 : Nat) (w : World) : Calls Tryd.prog 16 #[.agg (ptV (n, d)), .agg (ptV (n2, d2))] w fun e w' => e = .returned (.int .i64 (cmpT (n, d) (n2, d2))) ∧ Gro w.heap.size w w' := by
  go_enter Tryd.func16, Tryd.ntmps16
  go_upto_region 1 with (first
    | (refine Go.Great.wpList_boxTo rfl 44 (.tmp 0) rfl (some 2) rfl w.heap.size rfl (ptV (n, d)) rfl ?_)
    | (refine Go.Great.wpList_boxTo rfl 44 (.tmp 1) rfl (some 3) rfl (w.heap.size + 1) (by simp) (ptV (n2, d2)) rfl ?_))
  obtain ⟨Z, hZ⟩ : ∃ Z, Z = (w.alloc (Obj.cells (ptV (n, d)) 44)).alloc (Obj.cells (ptV (n2, d2)) 44) := ⟨_, rfl⟩
  have H1 := show Blk Z w.heap.size 44 (ptV (n, d)) by rw [hZ]; exact (Blk.new w _ _).alloc _
  have H2 := show Blk Z (w.heap.size + 1) 44 (ptV (n2, d2)) by rw [hZ]; exact heap2P w _ _
  have HB := Lib.hid (show Gro w.heap.size w Z by rw [hZ]; exact ((Gro.refl _ _).alloc (Nat.le_refl _) _).alloc (by simp) _)
  rw [← hZ]
  clear hZ
  have c0 := cell_extG (show Z.cell? ⟨w.heap.size, 0, none⟩ = some (.int .u64 (n : Int)) from (H1.cell 0).trans rfl)
  have c1 := cell_extG (show Z.cell? ⟨w.heap.size, 1, none⟩ = some (.int .i64 (d : Int)) from (H1.cell 1).trans rfl)
  have c2 := cell_extG (show Z.cell? ⟨w.heap.size + 1, 0, none⟩ = some (.int .u64 (n2 : Int)) from (H2.cell 0).trans rfl)
  have c3 := cell_extG (show Z.cell? ⟨w.heap.size + 1, 1, none⟩ = some (.int .i64 (d2 : Int)) from (H2.cell 1).trans rfl)
  clear H1 H2
  refine wp_region_loud_g Z [15] (fun _ u W => IntsV [cmpI n n2, cmpI d d2] u W) (by kernel_rfl) (by kernel_rfl) (by kernel_rfl) (by kernel_rfl) (fun _ _ _ _ h hb => h.nextG hb) (Gro.refl _ _).drew ?_
  repeat (first
    | (refine wpLoud_call_g 9 rfl [] (.int .i64 (cmpI n n2)) 21 (fun g => #[.int .u64 (n : Int), .int .u64 (n2 : Int)]) rfl (fun _ _ h => by cases h) rfl (fun g w => by kernel_rfl) (fun g z hg => by
        refine (cmp_u64 _ _ z.wd).mono ?_
        rintro e w' ⟨rfl, rfl⟩
        exact ⟨_, rfl, Gro.refl _ _, rfl⟩) _ (by simp only [Act.put, List.setIfInBounds_toArray, List.set_cons_succ, List.set_cons_zero]; rfl) ?_)
    | (refine wpLoud_call_g 14 rfl [] (.int .i64 (cmpI d d2)) 31 (fun g => #[.int .i64 (d : Int), .int .i64 (d2 : Int)]) rfl (fun _ _ h => by cases h) rfl (fun g w => by kernel_rfl) (fun g z hg => by
        refine (cmp_int _ _ z.wd).mono ?_
        rintro e w' ⟨rfl, rfl⟩
        exact ⟨_, rfl, Gro.refl _ _, rfl⟩) _ (by simp only [Act.put, List.setIfInBounds_toArray, List.set_cons_succ, List.set_cons_zero]; rfl) ?_)
    | (refine wpLoud_make_g rfl (fun _ _ h => by cases h) rfl 15 rfl rfl (fun y => ⟨_, _, run_ints y.wd [cmpI n n2, cmpI d d2] #[(0, .tmp 9), (1, .tmp 14)] rfl (by kernel_rfl) (by simp) (by simp), (Gro.refl _ _).alloc (Nat.le_refl _) _, ⟨_, rfl, Blk.new _ _ _⟩⟩) _ (by simp only [Act.put, List.setIfInBounds_toArray, List.set_cons_succ, List.set_cons_zero]; rfl) ?_)
    | (refine wpLoud_call_g 16 rfl [15] (.int .i64 (cmpT (n, d) (n2, d2))) 30 (fun g => #[g 15]) rfl (fun _ _ h => by cases h) rfl (fun g w => by kernel_rfl) (fun g z hg => by
        refine ((hg 15 (by simp)).or_ (by simp)).mono ?_
        rintro e w' ⟨rfl, rfl⟩
        exact ⟨_, rfl, Gro.refl _ _, rfl⟩) _ (by simp only [Act.put, List.setIfInBounds_toArray, List.set_cons_succ, List.set_cons_zero]; rfl) ?_)
    | (refine wpLoud_plain_g rfl rfl rfl ?_; intro K hK; go_big_quiet_op; go_big_quiet_on))
  refine wpLoud_end_g [] (by rfl) ?_
  intro g z hg
  have HBZ := Lib.hid (HB.out.trans (z.bel.mono HB.out.size))
  generalize z.wd = Y2 at *
  simp only [fill_g, Act.put, List.setIfInBounds_toArray, List.set_cons_succ, List.set_cons_zero]
  go_wp2_with fail
  go_ret
  exact ⟨rfl, HBZ.out⟩
def sortLay_ren : Go.Shelf.Ren := ⟨fun | 6 => 15 | 15 => 29 | 14 => 28 | 28 => 47 | 29 => 48 | 20 => 39 | 21 => 40 | 22 => 41 | 23 => 42 | 24 => 43 | 25 => 44 | 26 => 45 | 27 => 46 | 46 => 56 | 47 => 57 | 48 => 58 | 49 => 59 | 50 => 60 | 57 => 61 | n => n, fun | 22 => 33 | 24 => 44 | 25 => 46 | 3 => 3 | 39 => 55 | 0 => 0 | 53 => 61 | 55 => 38 | 4 => 4 | 46 => 80 | 45 => 79 | 50 => 49 | 2 => 5 | 9 => 9 | 66 => 90 | 70 => 94 | 76 => 96 | 77 => 97 | n => n, fun | n => n⟩
theorem sortLay : Go.Proofs.SlLaysF0.n6 Tryd.prog sortLay_ren := {
mixed := by kernel_rfl,
  f6 := ⟨"slices.SortFunc[[]quaestor/ring.point,quaestor/ring.point]", by decide, Tryd.func15.trans (congrArg some (by kernel_rfl))⟩,
  f14 := ⟨"slices.pdqsortCmpFunc[quaestor/ring.point]", by decide, Tryd.func28.trans (congrArg some (by kernel_rfl))⟩,
  f15 := Tryd.func29.trans (congrArg some (by kernel_rfl)),
  f20 := ⟨"slices.insertionSortCmpFunc[quaestor/ring.point]", by decide, Tryd.func39.trans (congrArg some (by kernel_rfl))⟩,
  f21 := ⟨"slices.heapSortCmpFunc[quaestor/ring.point]", by decide, Tryd.func40.trans (congrArg some (by kernel_rfl))⟩,
  f22 := ⟨"slices.breakPatternsCmpFunc[quaestor/ring.point]", by decide, Tryd.func41.trans (congrArg some (by kernel_rfl))⟩,
  f23 := ⟨"slices.choosePivotCmpFunc[quaestor/ring.point]", by decide, Tryd.func42.trans (congrArg some (by kernel_rfl))⟩,
  f24 := ⟨"slices.reverseRangeCmpFunc[quaestor/ring.point]", by decide, Tryd.func43.trans (congrArg some (by kernel_rfl))⟩,
  f25 := ⟨"slices.partialInsertionSortCmpFunc[quaestor/ring.point]", by decide, Tryd.func44.trans (congrArg some (by kernel_rfl))⟩,
  f26 := ⟨"slices.partitionEqualCmpFunc[quaestor/ring.point]", by decide, Tryd.func45.trans (congrArg some (by kernel_rfl))⟩,
  f27 := ⟨"slices.partitionCmpFunc[quaestor/ring.point]", by decide, Tryd.func46.trans (congrArg some (by kernel_rfl))⟩,
  f28 := Tryd.func47.trans (congrArg some (by kernel_rfl)),
  f29 := Tryd.func48.trans (congrArg some (by kernel_rfl)),
  f46 := ⟨"slices.siftDownCmpFunc[quaestor/ring.point]", by decide, Tryd.func56.trans (congrArg some (by kernel_rfl))⟩,
  f47 := Tryd.func57.trans (congrArg some (by kernel_rfl)),
  f48 := Tryd.func58.trans (congrArg some (by kernel_rfl)),
  f49 := ⟨"slices.medianAdjacentCmpFunc[quaestor/ring.point]", by decide, Tryd.func59.trans (congrArg some (by kernel_rfl))⟩,
  f50 := ⟨"slices.medianCmpFunc[quaestor/ring.point]", by decide, Tryd.func60.trans (congrArg some (by kernel_rfl))⟩,
  f57 := ⟨"slices.order2CmpFunc[quaestor/ring.point]", by decide, Tryd.func61.trans (congrArg some (by kernel_rfl))⟩,
  t0 := Tryd.underlying0,
  a0 := Tryd.isAgg0,
  z0 := Tryd.sizeOf0,
  v0 := Tryd.zeroValue0,
  t3 := Tryd.underlying3,
  a3 := Tryd.isAgg3,
  z3 := Tryd.sizeOf3,
  v3 := Tryd.zeroValue3,
  t4 := Tryd.underlying4,
  a4 := Tryd.isAgg4,
  z4 := Tryd.sizeOf4,
  v4 := Tryd.zeroValue4,
  t5 := Tryd.underlying5,
  a5 := Tryd.isAgg5,
  z5 := Tryd.sizeOf5,
  v5 := Tryd.zeroValue5,
  t9 := Tryd.underlying9,
  a9 := Tryd.isAgg9,
  z9 := Tryd.sizeOf9,
  v9 := Tryd.zeroValue9,
  t22 := Tryd.underlying33,
  a22 := Tryd.isAgg33,
  z22 := Tryd.sizeOf33,
  v22 := Tryd.zeroValue33,
  t25 := Tryd.underlying46,
  a25 := Tryd.isAgg46,
  z25 := Tryd.sizeOf46,
  v25 := Tryd.zeroValue46,
  t39 := Tryd.underlying55,
  a39 := Tryd.isAgg55,
  z39 := Tryd.sizeOf55,
  v39 := Tryd.zeroValue55,
  t45 := Tryd.underlying79,
  a45 := Tryd.isAgg79,
  z45 := Tryd.sizeOf79,
  v45 := Tryd.zeroValue79,
  t46 := Tryd.underlying80,
  a46 := Tryd.isAgg80,
  z46 := Tryd.sizeOf80,
  v46 := Tryd.zeroValue80,
  t50 := Tryd.underlying49,
  a50 := Tryd.isAgg49,
  z50 := Tryd.sizeOf49,
  v50 := Tryd.zeroValue49,
  t53 := Tryd.underlying61,
  a53 := Tryd.isAgg61,
  z53 := Tryd.sizeOf61,
  v53 := Tryd.zeroValue61,
  t55 := Tryd.underlying38,
  a55 := Tryd.isAgg38,
  z55 := Tryd.sizeOf38,
  v55 := Tryd.zeroValue38,
  t66 := Tryd.underlying90,
  a66 := Tryd.isAgg90,
  z66 := Tryd.sizeOf90,
  v66 := Tryd.zeroValue90,
  t70 := Tryd.underlying94,
  a70 := Tryd.isAgg94,
  z70 := Tryd.sizeOf94,
  v70 := Tryd.zeroValue94,
  t76 := Tryd.underlying96,
  a76 := Tryd.isAgg96,
  z76 := Tryd.sizeOf96,
  v76 := Tryd.zeroValue96,
  t77 := Tryd.underlying97,
  a77 := Tryd.isAgg97,
  z77 := Tryd.sizeOf97,
  v77 := Tryd.zeroValue97 }
theorem cmpLays_pt (w : World) (blk off size : Nat) : CmpLays Tryd.prog 16 #[] ptL 2 cmpT blk off size w := fun m os dk _ x y => by
  refine (show Calls Tryd.prog 16 #[.agg (ptV x), .agg (ptV y)] _ _ from (comparet_g x.1 x.2 y.1 y.2 _).mono ?_)
  rintro e w' ⟨rfl, hb⟩
  exact ⟨rfl, hb.grow⟩
theorem pts_flat (l : List Pt) : pts l = flatE ptL l := rfl
theorem sortT_c (g cap : Nat) (l : List Pt) (rest : List Value) (w : World) (hb : Blk w g 44 (pts l ++ rest).toArray) (hn : l.length < 4611686018427387904) :
    Calls Tryd.prog 15 #[.slice (some ⟨g, 0, none⟩) l.length cap, .func (.func 16) #[] #[]] w fun e w' =>
      e = .returned (.tuple #[]) ∧ ∃ d' : Array Pt, PermIn 0 l.toArray.size l.toArray d' ∧ SortedIn (ltOf cmpT) 0 l.toArray.size d' ∧ Blk w' g 44 (pts d'.toList ++ rest).toArray ∧ Only (fun i => i = g) w w' := by
  have hk : ∀ x : Pt, (ptL x).length = 2 := fun x => rfl
  have h := AnyQ.slices_SortFunc (P := Tryd.prog) (ρ := sortLay_ren) sortLay 2 Tryd.isAgg44 Tryd.sizeOf44 ptL hk (fun x v hv => by
    simp [ptL] at hv
    rcases hv with rfl | rfl <;> rfl) cmpT cmpT_swo 16 #[] g 0 cap l.toArray w (enters_of Tryd.func16 (by kernel_rfl) rfl) (cmpLays_pt w g 0 _) (holdsK_blk ptL 2 hk (by omega) hb) hb.lt (by simpa using hn)
  refine (show Calls Tryd.prog 15 _ w _ from h).mono ?_
  rintro e w' ⟨rfl, d', n, os, hp, hs, rfl⟩
  obtain ⟨h1, h2⟩ := sortWorld_blk ptL 2 hk (by omega) hb n d' (by have := hp.1; simpa using this) os
  exact ⟨rfl, d', hp, hs, h1, h2⟩
theorem sort0_c (A : Option Addr) (cap : Nat) (fv : Value) (w : World) : Calls Tryd.prog 15 #[.slice A 0 cap, fv] w fun e w' => e = .returned (.tuple #[]) ∧ w' = w :=
  AnyF.slices_SortFunc_none (P := Tryd.prog) (ρ := sortLay_ren) sortLay A cap fv w
end Go.Proofs.YtbgnjjbmidkhlaaDoor
/- Contract: slices.BinarySearchFunc at points; slices.Contains at ints. -/
namespace Go.Proofs.YtbgnjjbmidkhlaaDoor
set_option linter.unusedVariables false
set_option linter.unusedSimpArgs false
set_option maxRecDepth 100000
open Go.RowKit
set_option linter.unusedVariables false
set_option linter.unusedSimpArgs false
set_option maxRecDepth 100000 in
theorem nodes1_c (p : Pt) (x : Nat) (w : World) : Calls Tryd.prog 20 #[.agg (ptV p), .int .u64 x] w fun e w' => e = .returned (.int .i64 (cmpI p.1 x)) ∧ Below w.heap.size w w' := by
  have HZB := Lib.hid (Blk.new w 44 (ptV p))
  have HZO := Lib.hid ((Below.refl w.heap.size w).alloc (Nat.le_refl _) (Obj.cells (ptV p) 44))
  go_enter Tryd.func20, Tryd.ntmps20
  go_upto_region 1 with (refine Go.Great.wpList_boxTo rfl 44 (.tmp 0) rfl (some 2) rfl w.heap.size rfl (ptV p) rfl ?_)
  generalize w.alloc (Obj.cells (ptV p) 44) = Z at *
  have c0 : Z.cell? ⟨w.heap.size, 0, none⟩ = some (.int .u64 (p.1 : Int)) := (HZB.out.cell 0).trans rfl
  go_wp2_with (go_at_call 21; (refine (cmp_u64 _ _ _).mono ?_); rintro e w' ⟨rfl, rfl⟩)
  go_ret
  exact ⟨rfl, HZO.out⟩
/-- k points stand ahead of x -/
def SpT (L : List Pt) (x k : Nat) : Prop := k ≤ L.length ∧ (∀ t, t < k → (L.getD t pt0).1 < x) ∧ ∀ t, k ≤ t → t < L.length → x ≤ (L.getD t pt0).1
theorem SpT.iff {L : List Pt} {x k h : Nat} (H : SpT L x k) (hh : h < L.length) : (L.getD h pt0).1 < x ↔ h < k := by
  constructor
  · intro h1
    rcases Nat.lt_or_ge h k with h2 | h2
    · exact h2
    · have := H.2.2 h h2 hh; omega
  · exact H.2.1 h
theorem spT_of {L : List Pt} {x : Nat} (h : SortR L) : SpT L x (fromL x L) := by
  obtain ⟨h1, h2⟩ := cut_sort (at_ := x) h
  have hle : fromL x L ≤ L.length := List.countP_le_length
  refine ⟨hle, fun t ht => h1 _ ?_, fun t h3 h4 => h2 _ ?_⟩
  · rw [List.getD_eq_getElem?_getD, List.getElem?_eq_getElem (by omega)]
    exact List.mem_take_iff_getElem.2 ⟨t, by omega, rfl⟩
  · rw [List.getD_eq_getElem?_getD, List.getElem?_eq_getElem h4]
    refine List.mem_drop_iff_getElem.2 ⟨t - fromL x L, by omega, ?_⟩
    simp only [show fromL x L + (t - fromL x L) = t by omega]
    rfl
set_option maxRecDepth 100000 in
set_option maxHeartbeats 2000000 in
theorem bst_c (cap x k : Nat) (ad : Addr) (L : List Pt) (w : World) (hn : L.length ≤ 1000) (hcap : L.length ≤ cap) (hcap2 : cap ≤ maxLen) (hb : ad.block < w.heap.size) (ha : AtA w ad (pts L)) (hk : SpT L x k) :
    Calls Tryd.prog 19 #[.slice (some ad) L.length cap, .int .u64 x, .func (.func 20) #[] #[]] w fun e w' => ∃ b, e = .returned (.tuple #[.int .i64 k, .bool b]) ∧ Below w.heap.size w w' := by
  have hcap3 : (cap : Int) ≤ 9223372036854775807 := by unfold maxLen at hcap2; omega
  have HA := Lib.hid ha
  have HK := Lib.hid hk
  have HKN := hk.1
  have HC := Lib.hid (fun i W => nodes1_c (L.getD i pt0) x W)
  have HLN := Lib.hid (fun i => ptLn (L.getD i pt0))
  have HAT := Lib.hid (fun i (hi : i < L.length) W (h : Below w.heap.size w W) => (ha.below h hb).point i hi)
  have HIF := Lib.hid (fun h (hh : h < L.length) => hk.iff hh)
  clear ha hk hcap2
  go_enter Tryd.func19, Tryd.ntmps19
  go_wp2_with fail
  go_loopw [9, 10] (fun a b wr => ∃ lo hi : Nat, a = .int .i64 lo ∧ b = .int .i64 hi ∧ lo ≤ k ∧ k ≤ hi ∧ hi ≤ L.length ∧ Below w.heap.size w wr) (fun a b _ => (intOf b).toNat - (intOf a).toNat)
  case atStart => exact ⟨0, L.length, rfl, rfl, Nat.zero_le _, HKN, Nat.le_refl _, Below.refl _ _⟩
  case round =>
    rename World => wr
    obtain ⟨lo, hi, rfl, rfl, hlk, hkh, hhn, hbel⟩ := hrel
    have HB := Lib.hid hbel
    clear hbel
    by_cases hlt : lo < hi
    · have q1 : (lo : Int) < (hi : Int) := by omega
      obtain ⟨h, hh⟩ : ∃ h, h = (lo + hi) / 2 := ⟨_, rfl⟩
      have he : ((lo : Int) + (hi : Int)) / 2 = (h : Int) := by omega
      have hh1 : lo ≤ h := by omega
      have hh2 : h < hi := by omega
      have hhn2 : h < L.length := by omega
      clear hh
      have HRow := Lib.hid (HAT.out h hhn2 wr HB.out)
      have HIF1 := Lib.hid (HIF.out h hhn2)
      have HC1 := Lib.hid (HC.out h)
      have HL1 := Lib.hid (HLN.out h)
      obtain ⟨p, hp⟩ : ∃ p, p = L.getD h pt0 := ⟨_, rfl⟩
      rw [← hp] at HRow HIF1 HC1 HL1
      clear hp
      obtain ⟨c, hc⟩ : ∃ c, c = cmpI p.1 x := ⟨_, rfl⟩
      have hcl : c < 0 ↔ h < k := by rw [hc, cmpI_negT, ← HIF1.out]; omega
      rw [← hc] at HC1
      clear hc HIF1
      by_cases hx : h < k
      · have t1 : c < 0 := hcl.2 hx
        clear hcl
        go_wp2_with (first
          | (refine wpList_loadA rfl 44 (.tmp 27) rfl (ad.add (h * 2)) rfl (ptL p) _ HRow.out Tryd.underlying44 rfl HL1.out ?_)
          | (go_at_call 20; go_loud ((refine (HC1.out _).mono ?_); rintro e w1 ⟨rfl, hb1⟩; have HB1 := Lib.hid (HB.out.trans (hb1.mono HB.out.size)); clear hb1)))
        go_roundw
        case rel => exact ⟨h + 1, hi, by go_num, rfl, by omega, by omega, by omega, HB1.out⟩
        case measure => simp [intOf]; omega
      · have t1 : ¬ c < 0 := fun h0 => hx (hcl.1 h0)
        clear hcl
        go_wp2_with (first
          | (refine wpList_loadA rfl 44 (.tmp 27) rfl (ad.add (h * 2)) rfl (ptL p) _ HRow.out Tryd.underlying44 rfl HL1.out ?_)
          | (go_at_call 20; go_loud ((refine (HC1.out _).mono ?_); rintro e w1 ⟨rfl, hb1⟩; have HB1 := Lib.hid (HB.out.trans (hb1.mono HB.out.size)); clear hb1)))
        go_roundw
        case rel => exact ⟨lo, h, rfl, rfl, by omega, by omega, by omega, HB1.out⟩
        case measure => simp [intOf]; omega
    · obtain rfl : lo = k := by omega
      obtain rfl : hi = lo := by omega
      have q1 : ¬ (hi : Int) < (hi : Int) := by omega
      by_cases hkn : hi < L.length
      · have q2 : (hi : Int) < (L.length : Int) := by omega
        have HRow := Lib.hid (HAT.out hi hkn wr HB.out)
        have HC1 := Lib.hid (HC.out hi)
        have HL1 := Lib.hid (HLN.out hi)
        obtain ⟨p, hp⟩ : ∃ p, p = L.getD hi pt0 := ⟨_, rfl⟩
        rw [← hp] at HRow HC1 HL1
        clear hp
        obtain ⟨c, hc⟩ : ∃ c, c = cmpI p.1 x := ⟨_, rfl⟩
        rw [← hc] at HC1
        clear hc
        go_wp2_with (first
          | (refine wpList_loadA rfl 44 (.tmp 43) rfl (ad.add (hi * 2)) rfl (ptL p) _ HRow.out Tryd.underlying44 rfl HL1.out ?_)
          | (go_at_call 20; go_loud ((refine (HC1.out _).mono ?_); rintro e w1 ⟨rfl, hb1⟩; have HB1 := Lib.hid (HB.out.trans (hb1.mono HB.out.size)); clear hb1)))
        go_ret2
        exact ⟨_, rfl, HB1.out⟩
      · have q2 : ¬ (hi : Int) < (L.length : Int) := by omega
        go_wp2_with fail
        go_ret2
        first | exact ⟨_, rfl, HB.out⟩ | exact ⟨.inl rfl, HB.out⟩ | exact HB.out
set_option maxRecDepth 100000 in
theorem bst0_c (A : Option Addr) (cap x : Nat) (fv : Value) (w : World) : Calls Tryd.prog 19 #[.slice A 0 cap, .int .u64 x, fv] w fun e w' => ∃ b, e = .returned (.tuple #[.int .i64 ((0 : Nat) : Int), .bool b]) ∧ Below w.heap.size w w' := by
  go_enter Tryd.func19, Tryd.ntmps19
  go_wp2_with fail
  go_loopw [9, 10] (fun a b wr => a = .int .i64 0 ∧ b = .int .i64 0 ∧ wr = w) (fun _ _ _ => 0)
  case atStart => exact ⟨rfl, rfl, rfl⟩
  case round =>
    obtain ⟨rfl, rfl, rfl⟩ := hrel
    go_wp2_with fail
    go_ret2
    first | exact ⟨_, rfl, Below.refl _ _⟩ | exact ⟨.inl rfl, Below.refl _ _⟩ | exact Below.refl _ _
/-! ints -/
def its (l : List Nat) : List Value := l.map fun (n : Nat) => .int .i64 (n : Int)
theorem its_len (l : List Nat) : (its l).length = l.length := by simp [its]
theorem its_at {l : List Nat} {k : Nat} (h : k < l.length) : (its l)[k]? = some (.int .i64 ((l.getD k 0 : Nat) : Int)) := by
  simp [its, List.getD_eq_getElem?_getD, h]
theorem its_one (l : List Nat) : ∀ u ∈ its l, u.oneCell' = true := by
  intro u hu
  simp [its] at hu
  obtain ⟨n, _, rfl⟩ := hu
  rfl
theorem its_app (l m : List Nat) : its (l ++ m) = its l ++ its m := by simp [its]
def RdI (w : World) (B : Nat) (A : Option Addr) (l : List Nat) : Prop := Rd w B A (its l)
def OwnI (w : World) (base : Nat) (v : Value) (l : List Nat) : Prop := w.ownsRow base 3 1 v l.length (its l)
theorem OwnI.rd {w : World} {base : Nat} {v : Value} {l : List Nat} (h : OwnI w base v l) : ∃ A cap, v = .slice A l.length cap ∧ l.length ≤ cap ∧ cap ≤ maxLen ∧ RdI w w.heap.size A l := own_rd h
theorem OwnI.next {w w' : World} {base : Nat} {v : Value} {l : List Nat} (h : OwnI w base v l) (hb : Below w.heap.size w w') : OwnI w' base v l := own_keep (S := fun _ => False) h (Only.of_below hb) (fun _ _ h => h)
theorem OwnI.allocI {w : World} {base : Nat} {v : Value} {l : List Nat} (h : OwnI w base v l) (o : Obj) : OwnI (w.alloc o) base v l := World.ownsRow.alloc h o
theorem OwnI.nil_ (w : World) (base : Nat) : OwnI w base (.slice none 0 0) [] := ⟨rfl, .inl ⟨rfl, rfl⟩⟩
theorem OwnI.app {w w' : World} {base : Nat} {v v' : Value} {l m : List Nat} (h : Apped w base 3 1 v w' v' (l.length + m.length) (its l ++ its m)) : OwnI w' base v' (l ++ m) := by
  have h1 := h.own
  unfold OwnI
  rw [List.length_append, its_app]
  exact h1
theorem intInfoT : (Tryd.prog.info? 3).map (fun i => (i.zero, i.size, i.bytes)) = some (some (.int .i64 0), 1, 8) := by kernel_rfl
theorem int_parts : ∃ i, Tryd.prog.info? 3 = some i ∧ i.zero = some (.int .i64 0) ∧ i.size = 1 ∧ i.bytes = 8 := by
  have h := intInfoT
  cases hi : Tryd.prog.info? 3 with
  | none => rw [hi] at h; cases h
  | some i =>
    rw [hi] at h
    simp only [Option.map_some, Option.some.injEq, Prod.mk.injEq] at h
    exact ⟨i, rfl, h.1, h.2.1, h.2.2⟩
set_option maxRecDepth 100000 in
set_option maxHeartbeats 2000000 in
/-- the index of a number, or -1: 0 or more just if it is there -/
theorem indexT_c (B : Nat) (A : Option Addr) (cap : Nat) (l : List Nat) (x : Int) (w : World) (hr : RdI w B A l) (hl : l.length ≤ 1000) (hb : l.length ≤ cap) :
    Calls Tryd.prog 35 #[.slice A l.length cap, .int .i64 x] w fun e w' => ∃ k : Int, e = .returned (.int .i64 k) ∧ w = w' ∧ (0 ≤ k ↔ ∃ j, j < l.length ∧ ((l.getD j 0 : Nat) : Int) = x) := by
  have HR := Lib.hid hr
  clear hr
  go_enter Tryd.func35, Tryd.ntmps35
  go_wp2_with fail
  go_loopw [5, 8] (fun _ iv wr => ∃ i : Nat, i ≤ l.length ∧ iv = .int .i64 (i : Nat) ∧ wr = w ∧ ∀ j, j < i → ((l.getD j 0 : Nat) : Int) ≠ x) (fun _ iv _ => l.length - (intOf iv).toNat)
  case atStart => exact ⟨0, Nat.zero_le _, rfl, rfl, fun j hj => absurd hj (Nat.not_lt_zero j)⟩
  case round =>
    obtain ⟨i, hi, rfl, rfl, hno⟩ := hrel
    by_cases hlt : i < l.length
    · have q1 : (i : Int) < (l.length : Int) := by omega
      obtain ⟨ad, rfl, hab, hc⟩ := HR.out (by intro h0; have h1 : (its l).length = 0 := by { rw [h0]; rfl }; rw [its_len] at h1; omega)
      have c0 := hc i _ (its_at hlt)
      have HNO := Lib.hid hno
      clear hc hno
      obtain ⟨y, hy⟩ : ∃ y : Int, y = ((l.getD i 0 : Nat) : Int) := ⟨_, rfl⟩
      rw [← hy] at c0
      have HY := Lib.hid hy
      clear hy
      by_cases he : x = y
      · subst he
        go_wp2_with fail
        go_ret
        exact ⟨_, rfl, rfl, fun _ => ⟨i, hlt, HY.out.symm⟩, fun _ => by omega⟩
      · have q2 : (x == y) = false := by simpa using he
        go_wp2_with fail
        go_roundw
        case rel =>
          refine ⟨i + 1, by omega, by go_num, by first | rfl | trivial, fun j hj => ?_⟩
          rcases Nat.lt_or_ge j i with h1 | h1
          · exact HNO.out j h1
          · rw [show j = i by omega, ← HY.out]; exact fun h => he h.symm
        case measure => simp [intOf]; omega
    · obtain rfl : i = l.length := by omega
      have q1 : ¬ (l.length : Int) < (l.length : Int) := by omega
      have HNO := Lib.hid hno
      clear hno
      go_wp2_with fail
      go_ret
      exact ⟨-1, rfl, rfl, fun h => by omega, fun ⟨j, h1, h2⟩ => absurd h2 (HNO.out j h1)⟩
theorem mem_getD (l : List Nat) (x : Nat) : l.contains x = true ↔ ∃ j, j < l.length ∧ ((l.getD j 0 : Nat) : Int) = (x : Int) := by
  rw [List.contains_iff_mem]
  constructor
  · intro h
    obtain ⟨j, hj, e⟩ := List.getElem_of_mem h
    exact ⟨j, hj, by rw [List.getD_eq_getElem?_getD, List.getElem?_eq_getElem hj, ← e]; rfl⟩
  · rintro ⟨j, hj, e⟩
    rw [List.getD_eq_getElem?_getD, List.getElem?_eq_getElem hj] at e
    have : l[j] = x := by simp only [Option.getD_some] at e; omega
    rw [← this]
    exact List.getElem_mem hj
/-- whether an int is there -/
def hasI (l : List Nat) (x : Int) : Bool := l.any fun n => decide ((n : Int) = x)
theorem hasI_iff (l : List Nat) (x : Int) : hasI l x = true ↔ ∃ j, j < l.length ∧ ((l.getD j 0 : Nat) : Int) = x := by
  unfold hasI
  rw [List.any_eq_true]
  constructor
  · rintro ⟨n, hn, e⟩
    obtain ⟨j, hj, e2⟩ := List.getElem_of_mem hn
    refine ⟨j, hj, ?_⟩
    rw [List.getD_eq_getElem?_getD, List.getElem?_eq_getElem hj]
    rw [decide_eq_true_iff] at e
    rw [← e, ← e2]; rfl
  · rintro ⟨j, hj, e⟩
    rw [List.getD_eq_getElem?_getD, List.getElem?_eq_getElem hj] at e
    exact ⟨l[j], List.getElem_mem hj, decide_eq_true (by simpa using e)⟩
theorem hasI_nat (l : List Nat) (x : Nat) : hasI l (x : Int) = l.contains x := by
  rw [Bool.eq_iff_iff, hasI_iff, mem_getD]
theorem containsT_c (B : Nat) (A : Option Addr) (cap : Nat) (l : List Nat) (x : Int) (w : World) (hr : RdI w B A l) (hl : l.length ≤ 1000) (hb : l.length ≤ cap) :
    Calls Tryd.prog 22 #[.slice A l.length cap, .int .i64 x] w fun e w' => e = .returned (.bool (hasI l x)) ∧ w = w' := by
  have HC := Lib.hid (indexT_c B A cap l x w hr hl hb)
  have HI := Lib.hid (hasI_iff l x)
  clear hr
  generalize hasI l x = b at *
  go_enter Tryd.func22, Tryd.ntmps22
  go_upto_region 1 with fail
  obtain ⟨P, hP⟩ : ∃ P : Int → Prop, P = fun k => (0 ≤ k ↔ ∃ j, j < l.length ∧ ((l.getD j 0 : Nat) : Int) = x) := ⟨_, rfl⟩
  have hc := HC.out
  have HP := Lib.hid (show ∀ k, P k → (0 ≤ k ↔ b = true) from fun k h => by
    rw [hP] at h
    exact h.trans HI.out.symm)
  rw [show (fun (e : Ending) (w' : World) => ∃ k : Int, e = .returned (.int .i64 k) ∧ w = w' ∧ (0 ≤ k ↔ ∃ j, j < l.length ∧ ((l.getD j 0 : Nat) : Int) = x)) = (fun (e : Ending) (w' : World) => ∃ k : Int, e = .returned (.int .i64 k) ∧ w = w' ∧ P k) by rw [hP]] at hc
  have HC2 := Lib.hid hc
  clear hP hc HC HI
  cases b with
  | true =>
    go_wp2_with (go_at_call 35; (refine HC2.out.mono ?_); rintro e w1 ⟨k, rfl, rfl, hk⟩; have t1 : 0 ≤ k := (HP.out k hk).2 rfl; clear hk)
    go_ret
    exact ⟨rfl, rfl⟩
  | false =>
    go_wp2_with (go_at_call 35; (refine HC2.out.mono ?_); rintro e w1 ⟨k, rfl, rfl, hk⟩; have t0 : ¬ 0 ≤ k := (fun h => by have := (HP.out k hk).1 h; cases this); have t1 : decide (0 ≤ k) = false := decide_eq_false t0; clear hk t0)
    go_ret
    exact ⟨rfl, rfl⟩
end Go.Proofs.YtbgnjjbmidkhlaaDoor
