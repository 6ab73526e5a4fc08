/- Contract: the document's fingerprint: its bytes. -/
import Derived.Test.YthlmlmkabjppeaaDoorRl2
import Derived.StillTailTactics
namespace Go.Proofs.YthlmlmkabjppeaaDoor
open Go.RowKit
set_option linter.unusedVariables false
set_option linter.unusedSimpArgs false
structure OutW (Z w : World) (B O : Nat) (H l : List Nat) (k : Nat) : Prop where
  bel : Below Z.heap.size Z w
  hB : Blk w B 69 (vw H)
  hO : Blk w O 26 (vb (outZ l k))
theorem OutW.next {Z w w' : World} {B O : Nat} {H l : List Nat} {k : Nat} (h : OutW Z w B O H l k) (hb : Below w.heap.size w w') : OutW Z w' B O H l k := ⟨h.bel.trans (hb.mono h.bel.size), h.hB.below hb h.hB.lt, h.hO.below hb h.hO.lt⟩
theorem high4_at (y i : Nat) (h : i < 4) : (high y 4).getD i 0 = y / 2 ^ (24 - 8 * i) % 256 := by
  have := flat4_at [y] i (by simp; omega)
  rw [show i / 4 = 0 by omega, show i % 4 = i by omega] at this
  simpa using this
set_option maxRecDepth 1000000 in
set_option maxHeartbeats 40000000 in
theorem loop10 (Q : Exit → Act → World → Prop) (wq : World) (Z : World) (g O : Nat) (H M : List Nat) (c0 c1 c2 c3 c5 c6 c7 c8 c9 c10 c11 c12 c13 c14 c15 c16 c17 c18 c19 c20 c21 c22 c23 c26 c27 c28 c29 c30 c31 c32 c33 c34 c35 c36 c37 c38 c39 c40 c41 c42 c43 c44 c45 c46 c47 c48 c49 c50 c51 c52 c53 c54 c55 c56 c57 c58 c59 c60 c61 c62 c63 c64 c65 c66 c67 c68 c69 c70 c71 c72 c73 c74 c75 c76 c77 c78 c79 c80 c81 c82 c83 c84 c85 c86 c87 c88 c89 c90 c91 c92 c93 c94 c95 c96 c97 c98 c99 c100 c101 c102 c103 c104 c105 c106 c107 c108 c109 c110 c111 c112 c113 c114 c115 c116 c117 c118 c119 c120 c121 c122 c123 c124 c125 c126 c127 c128 c129 c130 c131 c132 c133 c134 c135 c136 c137 c138 c139 c140 c141 c142 c143 c144 c145 c146 c147 c148 c149 c150 c151 c152 c153 c154 c155 c156 c157 c158 c159 c160 c161 c162 c163 c164 c165 c166 c167 c168 c169 c170 c171 c172 c173 c174 c175 c176 c177 c178 c179 c180 c181 c182 c183 c184 c185 c186 c187 c188 c189 c190 c191 c192 c193 c194 c195 c196 c197 c198 c199 c200 c201 c202 c203 c204 c205 c206 c207 c208 c209 c210 c211 c212 c213 c214 c215 c216 c217 c218 c219 c220 c221 c222 c223 c224 c225 c226 c227 c228 c229 c230 c231 c232 c233 c234 c235 c236 c237 c238 c239 c240 c241 c242 c243 c244 c245 c246 c247 c248 c249 c250 c251 c252 c253 c254 c255 c256 c257 c258 c259 c260 c261 c262 c263 c264 c265 c266 c267 c268 c269 c270 c271 c272 c273 c274 c275 c276 c277 c278 c279 c280 c281 c282 c283 c284 : Value)
    (hgO : g ≠ O) (hzO : Z.heap.size ≤ O) (HO : Hid (OutW Z wq g O H M 0)) (HFL : Hid (H.length = 8)) (HFT : Hid (∀ c ∈ H, c < 4294967296)) (HM : Hid (M = H.flatMap fun w => high w 4)) (HML : Hid (M.length = 32))
    (hexit : ∀ (u25 u267 u268 u269 u270 u271 u272 u273 u274 u275 u276 u277 u278 u279 u280 u281 u282 u283 : Value) (ws : World), OutW Z ws g O H M 32 → Q (.exit 10) ⟨(c0 :: c1 :: c2 :: c3 :: (.slice (some ⟨g, 0, none⟩) 8 8) :: c5 :: c6 :: c7 :: c8 :: c9 :: c10 :: c11 :: c12 :: c13 :: c14 :: c15 :: c16 :: c17 :: c18 :: c19 :: c20 :: c21 :: c22 :: c23 :: (.pointer (some ⟨O, 0, none⟩)) :: u25 :: c26 :: c27 :: c28 :: c29 :: c30 :: c31 :: c32 :: c33 :: c34 :: c35 :: c36 :: c37 :: c38 :: c39 :: c40 :: c41 :: c42 :: c43 :: c44 :: c45 :: c46 :: c47 :: c48 :: c49 :: c50 :: c51 :: c52 :: c53 :: c54 :: c55 :: c56 :: c57 :: c58 :: c59 :: c60 :: c61 :: c62 :: c63 :: c64 :: c65 :: c66 :: c67 :: c68 :: c69 :: c70 :: c71 :: c72 :: c73 :: c74 :: c75 :: c76 :: c77 :: c78 :: c79 :: c80 :: c81 :: c82 :: c83 :: c84 :: c85 :: c86 :: c87 :: c88 :: c89 :: c90 :: c91 :: c92 :: c93 :: c94 :: c95 :: c96 :: c97 :: c98 :: c99 :: c100 :: c101 :: c102 :: c103 :: c104 :: c105 :: c106 :: c107 :: c108 :: c109 :: c110 :: c111 :: c112 :: c113 :: c114 :: c115 :: c116 :: c117 :: c118 :: c119 :: c120 :: c121 :: c122 :: c123 :: c124 :: c125 :: c126 :: c127 :: c128 :: c129 :: c130 :: c131 :: c132 :: c133 :: c134 :: c135 :: c136 :: c137 :: c138 :: c139 :: c140 :: c141 :: c142 :: c143 :: c144 :: c145 :: c146 :: c147 :: c148 :: c149 :: c150 :: c151 :: c152 :: c153 :: c154 :: c155 :: c156 :: c157 :: c158 :: c159 :: c160 :: c161 :: c162 :: c163 :: c164 :: c165 :: c166 :: c167 :: c168 :: c169 :: c170 :: c171 :: c172 :: c173 :: c174 :: c175 :: c176 :: c177 :: c178 :: c179 :: c180 :: c181 :: c182 :: c183 :: c184 :: c185 :: c186 :: c187 :: c188 :: c189 :: c190 :: c191 :: c192 :: c193 :: c194 :: c195 :: c196 :: c197 :: c198 :: c199 :: c200 :: c201 :: c202 :: c203 :: c204 :: c205 :: c206 :: c207 :: c208 :: c209 :: c210 :: c211 :: c212 :: c213 :: c214 :: c215 :: c216 :: c217 :: c218 :: c219 :: c220 :: c221 :: c222 :: c223 :: c224 :: c225 :: c226 :: c227 :: c228 :: c229 :: c230 :: c231 :: c232 :: c233 :: c234 :: c235 :: c236 :: c237 :: c238 :: c239 :: c240 :: c241 :: c242 :: c243 :: c244 :: c245 :: c246 :: c247 :: c248 :: c249 :: c250 :: c251 :: c252 :: c253 :: c254 :: c255 :: c256 :: c257 :: c258 :: c259 :: c260 :: c261 :: c262 :: c263 :: c264 :: c265 :: c266 :: u267 :: u268 :: u269 :: u270 :: u271 :: u272 :: u273 :: u274 :: u275 :: u276 :: u277 :: u278 :: u279 :: u280 :: u281 :: u282 :: u283 :: c284 :: []).toArray, []⟩ ws) :
    Code.wp Tryd.prog (lp 10) Q ⟨(c0 :: c1 :: c2 :: c3 :: (.slice (some ⟨g, 0, none⟩) 8 8) :: c5 :: c6 :: c7 :: c8 :: c9 :: c10 :: c11 :: c12 :: c13 :: c14 :: c15 :: c16 :: c17 :: c18 :: c19 :: c20 :: c21 :: c22 :: c23 :: (.pointer (some ⟨O, 0, none⟩)) :: (.int .i64 0) :: c26 :: c27 :: c28 :: c29 :: c30 :: c31 :: c32 :: c33 :: c34 :: c35 :: c36 :: c37 :: c38 :: c39 :: c40 :: c41 :: c42 :: c43 :: c44 :: c45 :: c46 :: c47 :: c48 :: c49 :: c50 :: c51 :: c52 :: c53 :: c54 :: c55 :: c56 :: c57 :: c58 :: c59 :: c60 :: c61 :: c62 :: c63 :: c64 :: c65 :: c66 :: c67 :: c68 :: c69 :: c70 :: c71 :: c72 :: c73 :: c74 :: c75 :: c76 :: c77 :: c78 :: c79 :: c80 :: c81 :: c82 :: c83 :: c84 :: c85 :: c86 :: c87 :: c88 :: c89 :: c90 :: c91 :: c92 :: c93 :: c94 :: c95 :: c96 :: c97 :: c98 :: c99 :: c100 :: c101 :: c102 :: c103 :: c104 :: c105 :: c106 :: c107 :: c108 :: c109 :: c110 :: c111 :: c112 :: c113 :: c114 :: c115 :: c116 :: c117 :: c118 :: c119 :: c120 :: c121 :: c122 :: c123 :: c124 :: c125 :: c126 :: c127 :: c128 :: c129 :: c130 :: c131 :: c132 :: c133 :: c134 :: c135 :: c136 :: c137 :: c138 :: c139 :: c140 :: c141 :: c142 :: c143 :: c144 :: c145 :: c146 :: c147 :: c148 :: c149 :: c150 :: c151 :: c152 :: c153 :: c154 :: c155 :: c156 :: c157 :: c158 :: c159 :: c160 :: c161 :: c162 :: c163 :: c164 :: c165 :: c166 :: c167 :: c168 :: c169 :: c170 :: c171 :: c172 :: c173 :: c174 :: c175 :: c176 :: c177 :: c178 :: c179 :: c180 :: c181 :: c182 :: c183 :: c184 :: c185 :: c186 :: c187 :: c188 :: c189 :: c190 :: c191 :: c192 :: c193 :: c194 :: c195 :: c196 :: c197 :: c198 :: c199 :: c200 :: c201 :: c202 :: c203 :: c204 :: c205 :: c206 :: c207 :: c208 :: c209 :: c210 :: c211 :: c212 :: c213 :: c214 :: c215 :: c216 :: c217 :: c218 :: c219 :: c220 :: c221 :: c222 :: c223 :: c224 :: c225 :: c226 :: c227 :: c228 :: c229 :: c230 :: c231 :: c232 :: c233 :: c234 :: c235 :: c236 :: c237 :: c238 :: c239 :: c240 :: c241 :: c242 :: c243 :: c244 :: c245 :: c246 :: c247 :: c248 :: c249 :: c250 :: c251 :: c252 :: c253 :: c254 :: c255 :: c256 :: c257 :: c258 :: c259 :: c260 :: c261 :: c262 :: c263 :: c264 :: c265 :: c266 :: c267 :: c268 :: c269 :: c270 :: c271 :: c272 :: c273 :: c274 :: c275 :: c276 :: c277 :: c278 :: c279 :: c280 :: c281 :: c282 :: c283 :: c284 :: []).toArray, []⟩ wq := by
  conv => arg 2; whnf
  go_loopw [25] (fun i wr => ∃ k : Nat, k ≤ 32 ∧ i = .int .i64 (k : Int) ∧ OutW Z wr g O H M k) (fun i _ => 32 - (intOf i).toNat)
  case atStart => exact ⟨0, by omega, rfl, HO.out⟩
  case round =>
    rename World => wo
    obtain ⟨k, hk, rfl, hs⟩ := hrel
    have HK := Lib.hid hs
    clear hs HO
    by_cases hlt : k < 32
    · have ec := HK.out.hB.cell (k / 4)
      rw [vw_at' _ _ (by rw [HFL.out]; omega)] at ec
      have hl := HFT.out _ (getD_mem H (k / 4) (by rw [HFL.out]; omega))
      have hf4 := flat4_at H k (by rw [HFL.out]; omega)
      rw [← HM.out] at hf4
      have HF4 := Lib.hid hf4
      clear hf4
      have d4 : (k : Int).tdiv 4 = ((k / 4 : Nat) : Int) := by rw [Int.tdiv_eq_ediv_of_nonneg (by omega)]; omega
      have m4 : (k : Int).tmod 4 = ((k % 4 : Nat) : Int) := by rw [Int.tmod_eq_emod_of_nonneg (by omega)]; omega
      have b4 : ((k / 4 : Nat) : Int) < 8 := by omega
      have b5 : ((k % 4 : Nat) : Int) < 4 := by omega
      generalize hy : H.getD (k / 4) 0 = y at *
      have ey : IntKind.u64.wrap (y : Int) = (y : Int) := by simp [IntKind.wrap, IntKind.signed, IntKind.bits]; omega
      have HHI := Lib.hid (fun W => rhigh_c y 4 W (by omega) (.inl rfl))
      go_wp2_with (go_at_call 41; (refine (HHI.out _).mono ?_); rintro e w5 ⟨v5, rfl, ho, hb⟩; obtain ⟨A5, k5, rfl, _, _, hr5⟩ := ho.rd; rw [high_len]; obtain ⟨ad5, rfl, _, hc5⟩ := hr5 (by rw [show byt (high y 4) = List.map (fun (n : Nat) => Value.int .u8 (n : Int)) (high y 4) from rfl]; intro h0; have := congrArg List.length h0; rw [List.length_map, high_len] at this; cases this); have hcc := hc5 (k % 4) _ (byt_at (by rw [high_len]; omega)); rw [high4_at y (k % 4) (by omega), ← HF4.out] at hcc; have HO5 := Lib.hid (show OutW Z w5 g O H M k from HK.out.next hb); have ef := HO5.out.hO.free k; have eo := HO5.out.hO.cell k; rw [vb_at _ k (by rw [outZ_len _ _ (by rw [HML.out]; omega), HML.out]; exact hlt)] at eo; clear ho hb hr5 hc5)
      refine ⟨⟨k + 1, by omega, by congr 1, ?_⟩, ?_⟩
      · rw [← List.getD_eq_getElem?_getD]
        refine ⟨HO5.out.bel.setCell hzO _, HO5.out.hB.far hgO _, ?_⟩
        rw [← outZ_set _ _ (by rw [HML.out]; exact hlt), ← vb_set]
        exact HO5.out.hO.set_ _ _
      · simp only [intOf]; omega
    · obtain rfl : k = 32 := by omega
      go_wp2_with fail
      exact HK.out
end Go.Proofs.YthlmlmkabjppeaaDoor
