/- Contract: the document's fingerprint: the first 16 words of a schedule. -/
import Derived.Test.YthlmlmkabjppeaaDoorRl0
import Derived.StillTailTactics
namespace Go.Proofs.YthlmlmkabjppeaaDoor
open Go.RowKit
set_option linter.unusedVariables false
set_option linter.unusedSimpArgs false
set_option maxRecDepth 1000000 in
set_option maxHeartbeats 40000000 in
theorem loop4 (Q : Exit → Act → World → Prop) (wq : World) (gp nb kp j : Nat) (P CH : List Nat) (rest : List Value) (c0 c1 c2 c4 c5 c9 c10 c11 c12 c13 c14 c15 c16 c17 c18 c19 c20 c21 c22 c23 c24 c25 c26 c27 c28 c29 c30 c31 c32 c33 c34 c35 c36 c37 c38 c39 c40 c41 c42 c43 c44 c45 c46 c47 c48 c49 c50 c51 c52 c53 c54 c55 c56 c57 c58 c59 c60 c61 c62 c63 c64 c65 c66 c67 c68 c69 c70 c71 c72 c73 c74 c75 c76 c77 c78 c79 c80 c81 c82 c83 c84 c85 c86 c87 c88 c89 c90 c91 c92 c93 c94 c95 c96 c97 c98 c99 c100 c101 c102 c103 c104 c105 c106 c107 c108 c109 c110 c111 c112 c113 c114 c115 c116 c117 c118 c119 c120 c121 c122 c123 c124 c125 c126 c127 c128 c129 c130 c131 c132 c133 c134 c135 c136 c137 c138 c139 c140 c141 c142 c143 c144 c145 c146 c147 c148 c149 c150 c151 c152 c153 c154 c155 c156 c157 c158 c159 c160 c161 c162 c163 c164 c165 c166 c167 c168 c169 c170 c171 c172 c173 c174 c175 c176 c177 c178 c179 c180 c181 c182 c183 c184 c185 c186 c187 c188 c189 c190 c191 c192 c193 c194 c195 c196 c197 c198 c199 c200 c201 c202 c203 c204 c205 c206 c207 c208 c209 c210 c211 c212 c213 c214 c215 c216 c217 c218 c219 c220 c221 c222 c223 c224 c225 c226 c227 c228 c229 c230 c231 c232 c233 c234 c235 c236 c237 c238 c239 c240 c241 c242 c243 c244 c245 c246 c247 c248 c249 c250 c251 c252 c253 c254 c255 c256 c257 c258 c259 c260 c261 c262 c263 c264 c265 c266 c267 c268 c269 c270 c271 c272 c273 c274 c275 c276 c277 c278 c279 c280 c281 c282 c283 c284 : Value)
    (hlt : j < nb) (hnbl : nb ≤ 1000) (hkp : 64 * nb ≤ kp) (hkp2 : kp ≤ maxLen) (hCl : CH.length = 64)
    (HCL : Hid (∀ c ∈ CH, c < 256)) (HCP : Hid (∀ i, i < 64 → P.getD (64 * j + i) 0 = CH.getD i 0)) (HPN : Hid (P.length = 64 * nb))
    (HPQ : Hid (Blk wq gp 5 (byt P ++ rest).toArray))
    (hexit : ∀ (u8 u54 u55 u56 u57 u58 u59 u60 u61 u62 u63 u64 u65 u66 u67 u68 u69 u70 u71 u72 u73 : Value) (v : Value) (ws : World), OwnW ws wq.heap.size v (sch CH 16) → Below wq.heap.size wq ws → Q (.exit 4) ⟨(c0 :: c1 :: c2 :: (.slice (some ⟨gp, 0, none⟩) (64 * nb) kp) :: c4 :: c5 :: (.int .i64 (64 * (j : Int))) :: v :: u8 :: c9 :: c10 :: c11 :: c12 :: c13 :: c14 :: c15 :: c16 :: c17 :: c18 :: c19 :: c20 :: c21 :: c22 :: c23 :: c24 :: c25 :: c26 :: c27 :: c28 :: c29 :: c30 :: c31 :: c32 :: c33 :: c34 :: c35 :: c36 :: c37 :: c38 :: c39 :: c40 :: c41 :: c42 :: c43 :: c44 :: c45 :: c46 :: c47 :: c48 :: c49 :: c50 :: c51 :: c52 :: c53 :: u54 :: u55 :: u56 :: u57 :: u58 :: u59 :: u60 :: u61 :: u62 :: u63 :: u64 :: u65 :: u66 :: u67 :: u68 :: u69 :: u70 :: u71 :: u72 :: u73 :: c74 :: c75 :: c76 :: c77 :: c78 :: c79 :: c80 :: c81 :: c82 :: c83 :: c84 :: c85 :: c86 :: c87 :: c88 :: c89 :: c90 :: c91 :: c92 :: c93 :: c94 :: c95 :: c96 :: c97 :: c98 :: c99 :: c100 :: c101 :: c102 :: c103 :: c104 :: c105 :: c106 :: c107 :: c108 :: c109 :: c110 :: c111 :: c112 :: c113 :: c114 :: c115 :: c116 :: c117 :: c118 :: c119 :: c120 :: c121 :: c122 :: c123 :: c124 :: c125 :: c126 :: c127 :: c128 :: c129 :: c130 :: c131 :: c132 :: c133 :: c134 :: c135 :: c136 :: c137 :: c138 :: c139 :: c140 :: c141 :: c142 :: c143 :: c144 :: c145 :: c146 :: c147 :: c148 :: c149 :: c150 :: c151 :: c152 :: c153 :: c154 :: c155 :: c156 :: c157 :: c158 :: c159 :: c160 :: c161 :: c162 :: c163 :: c164 :: c165 :: c166 :: c167 :: c168 :: c169 :: c170 :: c171 :: c172 :: c173 :: c174 :: c175 :: c176 :: c177 :: c178 :: c179 :: c180 :: c181 :: c182 :: c183 :: c184 :: c185 :: c186 :: c187 :: c188 :: c189 :: c190 :: c191 :: c192 :: c193 :: c194 :: c195 :: c196 :: c197 :: c198 :: c199 :: c200 :: c201 :: c202 :: c203 :: c204 :: c205 :: c206 :: c207 :: c208 :: c209 :: c210 :: c211 :: c212 :: c213 :: c214 :: c215 :: c216 :: c217 :: c218 :: c219 :: c220 :: c221 :: c222 :: c223 :: c224 :: c225 :: c226 :: c227 :: c228 :: c229 :: c230 :: c231 :: c232 :: c233 :: c234 :: c235 :: c236 :: c237 :: c238 :: c239 :: c240 :: c241 :: c242 :: c243 :: c244 :: c245 :: c246 :: c247 :: c248 :: c249 :: c250 :: c251 :: c252 :: c253 :: c254 :: c255 :: c256 :: c257 :: c258 :: c259 :: c260 :: c261 :: c262 :: c263 :: c264 :: c265 :: c266 :: c267 :: c268 :: c269 :: c270 :: c271 :: c272 :: c273 :: c274 :: c275 :: c276 :: c277 :: c278 :: c279 :: c280 :: c281 :: c282 :: c283 :: c284 :: []).toArray, []⟩ ws) :
    Code.wp Tryd.prog (lp 4) Q ⟨(c0 :: c1 :: c2 :: (.slice (some ⟨gp, 0, none⟩) (64 * nb) kp) :: c4 :: c5 :: (.int .i64 (64 * (j : Int))) :: (.slice none 0 0) :: (.int .i64 0) :: c9 :: c10 :: c11 :: c12 :: c13 :: c14 :: c15 :: c16 :: c17 :: c18 :: c19 :: c20 :: c21 :: c22 :: c23 :: c24 :: c25 :: c26 :: c27 :: c28 :: c29 :: c30 :: c31 :: c32 :: c33 :: c34 :: c35 :: c36 :: c37 :: c38 :: c39 :: c40 :: c41 :: c42 :: c43 :: c44 :: c45 :: c46 :: c47 :: c48 :: c49 :: c50 :: c51 :: c52 :: c53 :: c54 :: c55 :: c56 :: c57 :: c58 :: c59 :: c60 :: c61 :: c62 :: c63 :: c64 :: c65 :: c66 :: c67 :: c68 :: c69 :: c70 :: c71 :: c72 :: c73 :: c74 :: c75 :: c76 :: c77 :: c78 :: c79 :: c80 :: c81 :: c82 :: c83 :: c84 :: c85 :: c86 :: c87 :: c88 :: c89 :: c90 :: c91 :: c92 :: c93 :: c94 :: c95 :: c96 :: c97 :: c98 :: c99 :: c100 :: c101 :: c102 :: c103 :: c104 :: c105 :: c106 :: c107 :: c108 :: c109 :: c110 :: c111 :: c112 :: c113 :: c114 :: c115 :: c116 :: c117 :: c118 :: c119 :: c120 :: c121 :: c122 :: c123 :: c124 :: c125 :: c126 :: c127 :: c128 :: c129 :: c130 :: c131 :: c132 :: c133 :: c134 :: c135 :: c136 :: c137 :: c138 :: c139 :: c140 :: c141 :: c142 :: c143 :: c144 :: c145 :: c146 :: c147 :: c148 :: c149 :: c150 :: c151 :: c152 :: c153 :: c154 :: c155 :: c156 :: c157 :: c158 :: c159 :: c160 :: c161 :: c162 :: c163 :: c164 :: c165 :: c166 :: c167 :: c168 :: c169 :: c170 :: c171 :: c172 :: c173 :: c174 :: c175 :: c176 :: c177 :: c178 :: c179 :: c180 :: c181 :: c182 :: c183 :: c184 :: c185 :: c186 :: c187 :: c188 :: c189 :: c190 :: c191 :: c192 :: c193 :: c194 :: c195 :: c196 :: c197 :: c198 :: c199 :: c200 :: c201 :: c202 :: c203 :: c204 :: c205 :: c206 :: c207 :: c208 :: c209 :: c210 :: c211 :: c212 :: c213 :: c214 :: c215 :: c216 :: c217 :: c218 :: c219 :: c220 :: c221 :: c222 :: c223 :: c224 :: c225 :: c226 :: c227 :: c228 :: c229 :: c230 :: c231 :: c232 :: c233 :: c234 :: c235 :: c236 :: c237 :: c238 :: c239 :: c240 :: c241 :: c242 :: c243 :: c244 :: c245 :: c246 :: c247 :: c248 :: c249 :: c250 :: c251 :: c252 :: c253 :: c254 :: c255 :: c256 :: c257 :: c258 :: c259 :: c260 :: c261 :: c262 :: c263 :: c264 :: c265 :: c266 :: c267 :: c268 :: c269 :: c270 :: c271 :: c272 :: c273 :: c274 :: c275 :: c276 :: c277 :: c278 :: c279 :: c280 :: c281 :: c282 :: c283 :: c284 :: []).toArray, []⟩ wq := by
  conv => arg 2; whnf
  obtain ⟨i4, hi4, hy0, hy1, hy2⟩ := info_word
  have hpb := HPQ.out.lt
  go_loopw [7, 8] (fun v vi ws => ∃ i : Nat, i ≤ 16 ∧ vi = .int .i64 (i : Int) ∧ OwnW ws wq.heap.size v (sch CH i) ∧ Below wq.heap.size wq ws) (fun _ vi _ => 16 - (intOf vi).toNat)
  case atStart => exact ⟨0, by omega, rfl, OwnW.nil_ _ _, Below.refl _ _⟩
  case round =>
    rename World => ws
    obtain ⟨i, hi, rfl, ho, hb⟩ := hrel
    obtain ⟨A7, k7, rfl, _, _, _⟩ := ho.rd
    have HOW := Lib.hid ho
    have HBW := Lib.hid hb
    clear ho hb
    have HSL := Lib.hid (sch_len CH i)
    by_cases hlt : i < 16
    · have hlow : 64 * j + 4 * i + 4 ≤ 64 * nb := by omega
      have x1 : (0 : Int) ≤ 64 * (j : Int) + 4 * (i : Int) := by omega
      have x2 : (64 * (j : Int) + 4 * (i : Int) + 4) ≤ (kp : Int) := by omega
      have x3 : (64 * (j : Int) + 4 * (i : Int)).toNat = 64 * j + 4 * i := by omega
      have x4 : (64 * (j : Int) + 4 * (i : Int) + 4).toNat = 64 * j + 4 * i + 4 := by omega
      have hbe := be4_lt HCL.out i
      have hnx : sch CH (i + 1) = sch CH i ++ [be4 CH i] := by
        show sch CH i ++ [nxt CH (sch CH i) i] = _
        unfold nxt; rw [if_pos hlt]
      have HNU := Lib.hid (num4_c gp (64 * j) i (kp - (64 * j + 4 * i)) P CH rest hlt hCl HCL.out HCP.out (by have := HPN.out; omega))
      have HNX := Lib.hid hnx
      have HPW := Lib.hid (HPQ.out.below HBW.out HPQ.out.lt)
      clear hnx
      generalize be4 CH i = y at *
      go_wp2_with (first
        | (go_at_call 43; (refine (HNU.out ws HPW.out).mono ?_); rintro e wn ⟨rfl, rfl⟩)
        | (at_builtin; refine wpList_app _ rfl (.tmp 58) (.tmp 72) _ rfl wq.heap.size 69 i4 (.int .u32 0) 1 4 Tryd.underlying70 hi4 hy0 hy1 hy2 rfl (by decide) _ _ _ rfl (HOW.out.alloc _) _ _ 1 1 [.int .u32 (y : Nat)] rfl rfl (by exact rd_oneW _ _) (w32_one [_]) (by have := HSL.out; omega) (by have := HSL.out; omega) (by have := HBW.out.size; simp; omega) ?_; intro v9 w9 hap; have HO9 := Lib.hid (show OwnW w9 wq.heap.size v9 (sch CH (i + 1)) from by rw [HNX.out]; exact OwnW.snoc hap); have HB9 := Lib.hid (show Below wq.heap.size wq w9 from (HBW.out.alloc HBW.out.size _).trans (hap.below (HOW.out.alloc _) (by have := HBW.out.size; simp; omega))); clear hap))
      refine ⟨⟨i + 1, by omega, by congr 1, HO9.out, HB9.out⟩, ?_⟩
      simp only [intOf]; omega
    · obtain rfl : i = 16 := by omega
      go_wp2_with fail
      exact hexit _ _ _ _ _ _ _ _ _ _ _ _ _ _ _ _ _ _ _ _ _ _ _ HOW.out HBW.out
end Go.Proofs.YthlmlmkabjppeaaDoor
