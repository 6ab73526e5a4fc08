/- Contract: the document's fingerprint: the blocks. -/
import Derived.Test.YthlmlmkabjppeaaDoorRl8
import Derived.StillTailTactics
namespace Go.Proofs.YthlmlmkabjppeaaDoor
open Go.RowKit
set_option linter.unusedVariables false
set_option linter.unusedSimpArgs false
theorem rds_next (l h : List Nat) (k : Nat) : rds l h (k + 1) = rnd (kc.getD k 0) ((sch l 64).getD k 0) (rds l h k) := rfl
def blk8 (h l : List Nat) : List Nat := [ad (h.getD 0 0) (l.getD 0 0), ad (h.getD 1 0) (l.getD 1 0), ad (h.getD 2 0) (l.getD 2 0), ad (h.getD 3 0) (l.getD 3 0), ad (h.getD 4 0) (l.getD 4 0), ad (h.getD 5 0) (l.getD 5 0), ad (h.getD 6 0) (l.getD 6 0), ad (h.getD 7 0) (l.getD 7 0)]
theorem blk_eq (l h : List Nat) : blk l h = blk8 h (rds l h 64) := by
  unfold blk
  generalize rds l h 64 = L
  rfl
theorem vw_at' (l : List Nat) (k : Nat) (h : k < l.length) : (vw l)[k]? = some (.int .u32 (l.getD k 0 : Nat)) := by
  rw [vw_at _ _ h, List.getD_eq_getElem?_getD]
set_option maxRecDepth 1000000 in
set_option maxHeartbeats 40000000 in
theorem loop2 (Q : Exit → Act → World → Prop) (wq : World) (gp nb kp gk gh : Nat) (P : List Nat) (rest : List Value) (F : Nat → List Nat) (t134 : Value) (c0 c1 c2 c7 c8 c9 c10 c11 c12 c13 c14 c15 c16 c17 c18 c19 c20 c21 c22 c23 c24 c25 c26 c27 c28 c29 c30 c31 c32 c33 c34 c35 c36 c37 c38 c39 c40 c41 c42 c43 c44 c45 c46 c47 c48 c49 c50 c51 c52 c53 c54 c55 c56 c57 c58 c59 c60 c61 c62 c63 c64 c65 c66 c67 c68 c69 c70 c71 c72 c73 c74 c75 c76 c77 c78 c79 c80 c81 c82 c83 c84 c85 c86 c87 c88 c89 c90 c91 c92 c93 c94 c95 c96 c97 c98 c99 c100 c101 c102 c103 c104 c105 c106 c107 c108 c109 c110 c111 c112 c113 c114 c115 c116 c117 c118 c119 c120 c121 c122 c123 c124 c125 c126 c127 c128 c129 c130 c131 c132 c133 c135 c136 c137 c138 c139 c140 c141 c142 c143 c144 c145 c146 c147 c148 c149 c150 c151 c152 c153 c154 c155 c156 c157 c158 c159 c160 c161 c162 c163 c164 c165 c166 c167 c168 c169 c170 c171 c172 c173 c174 c175 c176 c177 c178 c179 c180 c181 c182 c183 c184 c185 c186 c187 c188 c189 c190 c191 c192 c193 c194 c195 c196 c197 c198 c199 c200 c201 c202 c203 c204 c205 c206 c207 c208 c209 c210 c211 c212 c213 c214 c215 c216 c217 c218 c219 c220 c221 c222 c223 c224 c225 c226 c227 c228 c229 c230 c231 c232 c233 c234 c235 c236 c237 c238 c239 c240 c241 c242 c243 c244 c245 c246 c247 c248 c249 c250 c251 c252 c253 c254 c255 c256 c257 c258 c259 c260 c261 c262 c263 c264 c265 c266 c267 c268 c269 c270 c271 c272 c273 c274 c275 c276 c277 c278 c279 c280 c281 c282 c283 c284 : Value)
    (hnbl : nb ≤ 1000) (hkp : 64 * nb ≤ kp) (hkp2 : kp ≤ maxLen) (HPD : Hid (∀ c ∈ P, c < 256)) (HPN : Hid (P.length = 64 * nb))
    (HPB : Hid (Blk wq gp 5 (byt P ++ rest).toArray)) (HKB : Hid (Blk wq gk 69 (vw kc))) (HHB : Hid (Blk wq gh 69 (vw (F 0))))
    (HF8 : Hid (∀ j, (F j).length = 8)) (HFT : Hid (∀ j, ∀ c ∈ F j, c < 4294967296)) (HFS : Hid (∀ j, F (j + 1) = blk ((P.drop (64 * j)).take 64) (F j))) (h134 : isTok t134 = false)
    (hexit : ∀ (u6 u7 u8 u9 u10 u11 u12 u13 u14 u15 u16 u17 u18 u19 u20 u21 u22 u23 u48 u49 u50 u51 u52 u53 u54 u55 u56 u57 u58 u59 u60 u61 u62 u63 u64 u65 u66 u67 u68 u69 u70 u71 u72 u73 u74 u75 u76 u77 u78 u79 u80 u81 u82 u83 u84 u85 u86 u87 u88 u89 u90 u91 u92 u93 u94 u95 u96 u97 u98 u99 u100 u101 u102 u103 u104 u105 u106 u107 u108 u109 u110 u111 u112 u113 u114 u115 u116 u117 u118 u119 u120 u121 u122 u123 u124 u125 u126 u127 u128 u129 u130 u131 u132 u133 u134 u135 u136 u137 u138 u139 u140 u141 u142 u143 u144 u145 u146 u147 u148 u149 u150 u151 u152 u153 u154 u155 u156 u157 u158 u159 u160 u161 u162 u163 u164 u165 u166 u167 u168 u169 u170 u171 u172 u173 u174 u175 u176 u177 u178 u179 u180 u181 u182 u183 u184 u185 u186 u187 u188 u189 u190 u191 u192 u193 u194 u195 u196 u197 u198 u199 u200 u201 u202 u203 u204 u205 u206 u207 u208 u209 u210 u211 u212 u213 u214 u215 u216 u217 u218 u219 u220 u221 u222 u223 u224 u225 u226 u227 u228 u229 u230 u231 u232 u233 u234 u235 u236 u237 u238 u239 u240 u241 u242 u243 u244 u245 u246 u247 u248 u249 u250 u251 u252 u253 u254 u255 u256 u257 u258 u259 u260 u261 u262 u263 u264 u265 u266 : Value) (g : Nat) (ws : World), Blk ws g 69 (vw (F nb)) → Below wq.heap.size wq ws → Q (.exit 2) ⟨(c0 :: c1 :: c2 :: (.slice (some ⟨gp, 0, none⟩) (64 * nb) kp) :: (.slice (some ⟨g, 0, none⟩) 8 8) :: (.slice (some ⟨gk, 0, none⟩) 64 64) :: u6 :: u7 :: u8 :: u9 :: u10 :: u11 :: u12 :: u13 :: u14 :: u15 :: u16 :: u17 :: u18 :: u19 :: u20 :: u21 :: u22 :: u23 :: c24 :: c25 :: c26 :: c27 :: c28 :: c29 :: c30 :: c31 :: c32 :: c33 :: c34 :: c35 :: c36 :: c37 :: c38 :: c39 :: c40 :: c41 :: c42 :: c43 :: c44 :: c45 :: c46 :: c47 :: u48 :: u49 :: u50 :: u51 :: u52 :: u53 :: u54 :: u55 :: u56 :: u57 :: u58 :: u59 :: u60 :: u61 :: u62 :: u63 :: u64 :: u65 :: u66 :: u67 :: u68 :: u69 :: u70 :: u71 :: u72 :: u73 :: u74 :: u75 :: u76 :: u77 :: u78 :: u79 :: u80 :: u81 :: u82 :: u83 :: u84 :: u85 :: u86 :: u87 :: u88 :: u89 :: u90 :: u91 :: u92 :: u93 :: u94 :: u95 :: u96 :: u97 :: u98 :: u99 :: u100 :: u101 :: u102 :: u103 :: u104 :: u105 :: u106 :: u107 :: u108 :: u109 :: u110 :: u111 :: u112 :: u113 :: u114 :: u115 :: u116 :: u117 :: u118 :: u119 :: u120 :: u121 :: u122 :: u123 :: u124 :: u125 :: u126 :: u127 :: u128 :: u129 :: u130 :: u131 :: u132 :: u133 :: u134 :: u135 :: u136 :: u137 :: u138 :: u139 :: u140 :: u141 :: u142 :: u143 :: u144 :: u145 :: u146 :: u147 :: u148 :: u149 :: u150 :: u151 :: u152 :: u153 :: u154 :: u155 :: u156 :: u157 :: u158 :: u159 :: u160 :: u161 :: u162 :: u163 :: u164 :: u165 :: u166 :: u167 :: u168 :: u169 :: u170 :: u171 :: u172 :: u173 :: u174 :: u175 :: u176 :: u177 :: u178 :: u179 :: u180 :: u181 :: u182 :: u183 :: u184 :: u185 :: u186 :: u187 :: u188 :: u189 :: u190 :: u191 :: u192 :: u193 :: u194 :: u195 :: u196 :: u197 :: u198 :: u199 :: u200 :: u201 :: u202 :: u203 :: u204 :: u205 :: u206 :: u207 :: u208 :: u209 :: u210 :: u211 :: u212 :: u213 :: u214 :: u215 :: u216 :: u217 :: u218 :: u219 :: u220 :: u221 :: u222 :: u223 :: u224 :: u225 :: u226 :: u227 :: u228 :: u229 :: u230 :: u231 :: u232 :: u233 :: u234 :: u235 :: u236 :: u237 :: u238 :: u239 :: u240 :: u241 :: u242 :: u243 :: u244 :: u245 :: u246 :: u247 :: u248 :: u249 :: u250 :: u251 :: u252 :: u253 :: u254 :: u255 :: u256 :: u257 :: u258 :: u259 :: u260 :: u261 :: u262 :: u263 :: u264 :: u265 :: u266 :: c267 :: c268 :: c269 :: c270 :: c271 :: c272 :: c273 :: c274 :: c275 :: c276 :: c277 :: c278 :: c279 :: c280 :: c281 :: c282 :: c283 :: c284 :: []).toArray, []⟩ ws) :
    Code.wp Tryd.prog (lp 2) Q ⟨(c0 :: c1 :: c2 :: (.slice (some ⟨gp, 0, none⟩) (64 * nb) kp) :: (.slice (some ⟨gh, 0, none⟩) 8 8) :: (.slice (some ⟨gk, 0, none⟩) 64 64) :: (.int .i64 0) :: c7 :: c8 :: c9 :: c10 :: c11 :: c12 :: c13 :: c14 :: c15 :: c16 :: c17 :: c18 :: c19 :: c20 :: c21 :: c22 :: c23 :: c24 :: c25 :: c26 :: c27 :: c28 :: c29 :: c30 :: c31 :: c32 :: c33 :: c34 :: c35 :: c36 :: c37 :: c38 :: c39 :: c40 :: c41 :: c42 :: c43 :: c44 :: c45 :: c46 :: c47 :: c48 :: c49 :: c50 :: c51 :: c52 :: c53 :: c54 :: c55 :: c56 :: c57 :: c58 :: c59 :: c60 :: c61 :: c62 :: c63 :: c64 :: c65 :: c66 :: c67 :: c68 :: c69 :: c70 :: c71 :: c72 :: c73 :: c74 :: c75 :: c76 :: c77 :: c78 :: c79 :: c80 :: c81 :: c82 :: c83 :: c84 :: c85 :: c86 :: c87 :: c88 :: c89 :: c90 :: c91 :: c92 :: c93 :: c94 :: c95 :: c96 :: c97 :: c98 :: c99 :: c100 :: c101 :: c102 :: c103 :: c104 :: c105 :: c106 :: c107 :: c108 :: c109 :: c110 :: c111 :: c112 :: c113 :: c114 :: c115 :: c116 :: c117 :: c118 :: c119 :: c120 :: c121 :: c122 :: c123 :: c124 :: c125 :: c126 :: c127 :: c128 :: c129 :: c130 :: c131 :: c132 :: c133 :: t134 :: c135 :: c136 :: c137 :: c138 :: c139 :: c140 :: c141 :: c142 :: c143 :: c144 :: c145 :: c146 :: c147 :: c148 :: c149 :: c150 :: c151 :: c152 :: c153 :: c154 :: c155 :: c156 :: c157 :: c158 :: c159 :: c160 :: c161 :: c162 :: c163 :: c164 :: c165 :: c166 :: c167 :: c168 :: c169 :: c170 :: c171 :: c172 :: c173 :: c174 :: c175 :: c176 :: c177 :: c178 :: c179 :: c180 :: c181 :: c182 :: c183 :: c184 :: c185 :: c186 :: c187 :: c188 :: c189 :: c190 :: c191 :: c192 :: c193 :: c194 :: c195 :: c196 :: c197 :: c198 :: c199 :: c200 :: c201 :: c202 :: c203 :: c204 :: c205 :: c206 :: c207 :: c208 :: c209 :: c210 :: c211 :: c212 :: c213 :: c214 :: c215 :: c216 :: c217 :: c218 :: c219 :: c220 :: c221 :: c222 :: c223 :: c224 :: c225 :: c226 :: c227 :: c228 :: c229 :: c230 :: c231 :: c232 :: c233 :: c234 :: c235 :: c236 :: c237 :: c238 :: c239 :: c240 :: c241 :: c242 :: c243 :: c244 :: c245 :: c246 :: c247 :: c248 :: c249 :: c250 :: c251 :: c252 :: c253 :: c254 :: c255 :: c256 :: c257 :: c258 :: c259 :: c260 :: c261 :: c262 :: c263 :: c264 :: c265 :: c266 :: c267 :: c268 :: c269 :: c270 :: c271 :: c272 :: c273 :: c274 :: c275 :: c276 :: c277 :: c278 :: c279 :: c280 :: c281 :: c282 :: c283 :: c284 :: []).toArray, []⟩ wq := by
  conv => arg 2; whnf
  have hgp := HPB.out.lt
  go_loopw [4, 6, 134] (fun vh va vt wr => ∃ j : Nat, j ≤ nb ∧ isTok vt = false ∧ va = .int .i64 (64 * (j : Int)) ∧ (∃ g, vh = .slice (some ⟨g, 0, none⟩) 8 8 ∧ Blk wr g 69 (vw (F j))) ∧ Below wq.heap.size wq wr) (fun _ va _ _ => 64 * nb - (intOf va).toNat)
  case atStart => exact ⟨0, by omega, h134, rfl, ⟨gh, rfl, HHB.out⟩, Below.refl _ _⟩
  case round =>
    rename World => wr
    obtain ⟨j, hj, ht, rfl, ⟨g, rfl, hbl⟩, hb⟩ := hrel
    have HT := Lib.hid ht
    have HHG := Lib.hid hbl
    have HBQ := Lib.hid hb
    clear hbl hb HHB ht h134
    by_cases hlt : j < nb
    · obtain ⟨CH, hCH⟩ : ∃ CH, CH = (P.drop (64 * j)).take 64 := ⟨_, rfl⟩
      have hCl : CH.length = 64 := by rw [hCH, List.length_take, List.length_drop, HPN.out]; omega
      have HCL := Lib.hid (show ∀ c ∈ CH, c < 256 from fun c hc => HPD.out c (by rw [hCH] at hc; exact List.mem_of_mem_drop (List.mem_of_mem_take hc)))
      have HFJ := Lib.hid (show F (j + 1) = blk CH (F j) by rw [hCH]; exact HFS.out j)
      have HCP := Lib.hid (show ∀ i, i < 64 → P.getD (64 * j + i) 0 = CH.getD i 0 from fun i hi => by
        rw [hCH, List.getD_eq_getElem?_getD, List.getD_eq_getElem?_getD, List.getElem?_take_of_lt hi, List.getElem?_drop])
      have HPW := Lib.hid (HPB.out.below HBQ.out HPB.out.lt)
      have HFL := Lib.hid (HF8.out j)
      have HFB := Lib.hid (HFT.out j)
      clear hCH
      go_wp2_with fail
      refine loop4 _ wr gp nb kp j P CH rest _ _ _ _ _ _ _ _ _ _ _ _ _ _ _ _ _ _ _ _ _ _ _ _ _ _ _ _ _ _ _ _ _ _ _ _ _ _ _ _ _ _ _ _ _ _ _ _ _ _ _ _ _ _ _ _ _ _ _ _ _ _ _ _ _ _ _ _ _ _ _ _ _ _ _ _ _ _ _ _ _ _ _ _ _ _ _ _ _ _ _ _ _ _ _ _ _ _ _ _ _ _ _ _ _ _ _ _ _ _ _ _ _ _ _ _ _ _ _ _ _ _ _ _ _ _ _ _ _ _ _ _ _ _ _ _ _ _ _ _ _ _ _ _ _ _ _ _ _ _ _ _ _ _ _ _ _ _ _ _ _ _ _ _ _ _ _ _ _ _ _ _ _ _ _ _ _ _ _ _ _ _ _ _ _ _ _ _ _ _ _ _ _ _ _ _ _ _ _ _ _ _ _ _ _ _ _ _ _ _ _ _ _ _ _ _ _ _ _ _ _ _ _ _ _ _ _ _ _ _ _ _ _ _ _ _ _ _ _ _ _ _ _ _ _ _ _ _ _ _ _ _ _ _ _ _ _ _ _ _ _ _ _ _ _ _ _ _ _ _ _ _ _ _ _ _ _ _ _ _ _ hlt hnbl hkp hkp2 hCl HCL HCP HPN HPW ?_
      intro x8 x54 x55 x56 x57 x58 x59 x60 x61 x62 x63 x64 x65 x66 x67 x68 x69 x70 x71 x72 x73 v4 ws4 ho4 hb4
      have HO4 := Lib.hid ho4
      have HB4 := Lib.hid hb4
      clear ho4 hb4
      go_wp2_with fail
      refine loop6 _ ws4 wr.heap.size CH v4 _ _ _ _ _ _ _ _ _ _ _ _ _ _ _ _ _ _ _ _ _ _ _ _ _ _ _ _ _ _ _ _ _ _ _ _ _ _ _ _ _ _ _ _ _ _ _ _ _ _ _ _ _ _ _ _ _ _ _ _ _ _ _ _ _ _ _ _ _ _ _ _ _ _ _ _ _ _ _ _ _ _ _ _ _ _ _ _ _ _ _ _ _ _ _ _ _ _ _ _ _ _ _ _ _ _ _ _ _ _ _ _ _ _ _ _ _ _ _ _ _ _ _ _ _ _ _ _ _ _ _ _ _ _ _ _ _ _ _ _ _ _ _ _ _ _ _ _ _ _ _ _ _ _ _ _ _ _ _ _ _ _ _ _ _ _ _ _ _ _ _ _ _ _ _ _ _ _ _ _ _ _ _ _ _ _ _ _ _ _ _ _ _ _ _ _ _ _ _ _ _ _ _ _ _ _ _ _ _ _ _ _ _ _ _ _ _ _ _ _ _ _ _ _ _ _ _ _ _ _ _ _ _ _ _ _ _ _ _ _ _ _ _ _ _ _ _ _ _ _ _ _ _ _ _ _ _ _ _ _ _ _ _ _ _ _ _ _ _ _ _ _ _ _ _ _ _ _ _ _ _ _ _ HCL HO4 HB4.out.size HT.out ?_
      intro y9 y10 y11 y74 y75 y76 y77 y78 y79 y80 y81 y82 y83 y84 y85 y86 y87 y88 y89 y90 y91 y92 y93 y94 y95 y96 y97 y98 y99 y100 y101 y102 y103 y104 y105 y106 y107 y108 y109 y110 y111 y112 y113 y114 y115 y116 y117 y118 y119 y120 y121 y122 y123 y124 y125 y126 y127 y128 y129 y130 y131 y132 y133 y135 v6 t6 ws6 ht6 ho6 hb6
      have HT6 := Lib.hid ht6
      have HB6 := Lib.hid (HB4.out.trans hb6)
      obtain ⟨A8, k8, rfl, hk8, _, hr8⟩ := ho6.rd
      obtain ⟨ad8, rfl, _, hc8⟩ := hr8.wordAt (by rw [sch_len]; omega)
      have HC8 := Lib.hid (show ∀ i, i < 64 → ws6.cell? (ad8.add i) = some (.int .u32 ((sch CH 64).getD i 0 : Nat)) from fun i hi => hc8 i (by rw [sch_len]; exact hi))
      have HSB := Lib.hid (show ∀ i, (sch CH 64).getD i 0 < 4294967296 from sch_at_lt HCL.out 64)
      rw [sch_len] at hk8 ⊢
      clear ht6 ho6 hb6 hr8 hc8 HO4 HT
      have HHG6 := Lib.hid (HHG.out.below HB6.out HHG.out.lt)
      have HKB6 := Lib.hid ((HKB.out.below HBQ.out HKB.out.lt).below HB6.out (Nat.lt_of_lt_of_le HKB.out.lt HBQ.out.size))
      obtain ⟨R, hR⟩ : ∃ R, R = rds CH (F j) := ⟨_, rfl⟩
      have HR0 := Lib.hid (show R 0 = F j by rw [hR]; rfl)
      obtain ⟨L, hL⟩ : ∃ L, L = R 64 := ⟨_, rfl⟩
      obtain ⟨S, hS⟩ : ∃ S, S = sch CH 64 := ⟨_, rfl⟩
      have HRS := Lib.hid (show ∀ k, R (k + 1) = rnd (kc.getD k 0) (S.getD k 0) (R k) by rw [hR, hS]; exact fun k => rds_next _ _ k)
      have HRL := Lib.hid (show ∀ k, (R k).length = 8 by rw [hR]; exact fun k => rds_len HFL.out k)
      have HRT := Lib.hid (show ∀ k, ∀ c ∈ R k, c < 4294967296 by rw [hR]; exact fun k => rds_lt CH HFB.out k)
      have HR6 := Lib.hid hL.symm
      have HBK := Lib.hid (show F (j + 1) = blk8 (F j) L by rw [hL, hR, HFJ.out]; exact blk_eq _ _)
      rw [← hS] at HC8 HSB
      clear hR hL hS
      generalize F j = H at *
      have e0 : ws6.cell? ⟨g, 0, none⟩ = some (.int .u32 (H.getD 0 0 : Nat)) := (HHG6.out.cell 0).trans (vw_at' H 0 (by rw [HFL.out]; omega))
      have e1 : ws6.cell? ⟨g, 1, none⟩ = some (.int .u32 (H.getD 1 0 : Nat)) := (HHG6.out.cell 1).trans (vw_at' H 1 (by rw [HFL.out]; omega))
      have e2 : ws6.cell? ⟨g, 2, none⟩ = some (.int .u32 (H.getD 2 0 : Nat)) := (HHG6.out.cell 2).trans (vw_at' H 2 (by rw [HFL.out]; omega))
      have e3 : ws6.cell? ⟨g, 3, none⟩ = some (.int .u32 (H.getD 3 0 : Nat)) := (HHG6.out.cell 3).trans (vw_at' H 3 (by rw [HFL.out]; omega))
      have e4 : ws6.cell? ⟨g, 4, none⟩ = some (.int .u32 (H.getD 4 0 : Nat)) := (HHG6.out.cell 4).trans (vw_at' H 4 (by rw [HFL.out]; omega))
      have e5 : ws6.cell? ⟨g, 5, none⟩ = some (.int .u32 (H.getD 5 0 : Nat)) := (HHG6.out.cell 5).trans (vw_at' H 5 (by rw [HFL.out]; omega))
      have e6 : ws6.cell? ⟨g, 6, none⟩ = some (.int .u32 (H.getD 6 0 : Nat)) := (HHG6.out.cell 6).trans (vw_at' H 6 (by rw [HFL.out]; omega))
      have e7 : ws6.cell? ⟨g, 7, none⟩ = some (.int .u32 (H.getD 7 0 : Nat)) := (HHG6.out.cell 7).trans (vw_at' H 7 (by rw [HFL.out]; omega))
      go_wp2_with fail
      refine wp_region_quiet_lit (by kernel_rfl) (by kernel_rfl) ?_
      repeat (go_big_quiet_step (fail))
      refine wpQuiet_nil ?_
      rintro _ ⟨n6, rfl⟩
      go_wp2_with fail
      refine loop8 _ (ws6.drewN n6) gk k8 ad8 S H L R _ _ _ _ _ _ _ _ _ _ _ _ _ _ _ _ _ _ _ _ _ _ _ _ _ _ _ _ _ _ _ _ _ _ _ _ _ _ _ _ _ _ _ _ _ _ _ _ _ _ _ _ _ _ _ _ _ _ _ _ _ _ _ _ _ _ _ _ _ _ _ _ _ _ _ _ _ _ _ _ _ _ _ _ _ _ _ _ _ _ _ _ _ _ _ _ _ _ _ _ _ _ _ _ _ _ _ _ _ _ _ _ _ _ _ _ _ _ _ _ _ _ _ _ _ _ _ _ _ _ _ _ _ _ _ _ _ _ _ _ _ _ _ _ _ _ _ _ _ _ _ _ _ _ _ _ _ _ _ _ _ _ _ _ _ _ _ _ _ _ _ _ _ _ _ _ _ _ _ _ _ _ _ _ _ _ _ _ _ _ _ _ _ _ _ _ _ _ _ _ _ _ _ _ _ _ _ _ _ _ _ _ _ _ _ _ _ _ _ _ _ _ _ _ _ _ _ _ _ _ _ _ _ _ _ _ _ _ _ _ _ _ _ _ _ _ _ _ _ _ _ _ _ _ _ _ _ _ _ _ _ _ _ _ _ _ _ _ _ _ _ _ _ _ (show Hid (Blk (ws6.drewN n6) gk 69 (vw kc)) from HKB6) HC8 hk8 HSB HRL HRT HR0 HR6 HRS ?_
      intro z20 z21 z22 z23 z160 z161 z162 z163 z164 z165 z166 z167 z168 z169 z170 z171 z172 z173 z174 z175 z176 z177 z178 z179 z180 z181 z182 z183 z184 z185 z186 z187 z188 z189 z190 z191 z192 z193 z194 z195 z196 z197 z198 z199 z200 z201 z202 z203 z204 z205 z206 z207 z208 z209 z210 z211 z212 z213 z214 z215 z216 z217 z218 z219 z220 z221 z222 z223 z224 z225 n8
      go_wp2_with fail
      obtain ⟨Y, hY⟩ : ∃ Y, Y = (ws6.drewN n6).drewN n8 := ⟨_, rfl⟩
      replace e0 : Y.cell? ⟨g, 0, none⟩ = some (.int .u32 (H.getD 0 0 : Nat)) := by rw [hY]; exact e0
      replace e1 : Y.cell? ⟨g, 1, none⟩ = some (.int .u32 (H.getD 1 0 : Nat)) := by rw [hY]; exact e1
      replace e2 : Y.cell? ⟨g, 2, none⟩ = some (.int .u32 (H.getD 2 0 : Nat)) := by rw [hY]; exact e2
      replace e3 : Y.cell? ⟨g, 3, none⟩ = some (.int .u32 (H.getD 3 0 : Nat)) := by rw [hY]; exact e3
      replace e4 : Y.cell? ⟨g, 4, none⟩ = some (.int .u32 (H.getD 4 0 : Nat)) := by rw [hY]; exact e4
      replace e5 : Y.cell? ⟨g, 5, none⟩ = some (.int .u32 (H.getD 5 0 : Nat)) := by rw [hY]; exact e5
      replace e6 : Y.cell? ⟨g, 6, none⟩ = some (.int .u32 (H.getD 6 0 : Nat)) := by rw [hY]; exact e6
      replace e7 : Y.cell? ⟨g, 7, none⟩ = some (.int .u32 (H.getD 7 0 : Nat)) := by rw [hY]; exact e7
      have HBY := Lib.hid (show Below wr.heap.size wr Y by rw [hY]; exact belowDrewN n8 (belowDrewN n6 HB6.out))
      rw [← hY]
      clear hY
      have HBK2 : Hid (F (j + 1) = [ad (H.getD 0 0) (L.getD 0 0), ad (H.getD 1 0) (L.getD 1 0), ad (H.getD 2 0) (L.getD 2 0), ad (H.getD 3 0) (L.getD 3 0), ad (H.getD 4 0) (L.getD 4 0), ad (H.getD 5 0) (L.getD 5 0), ad (H.getD 6 0) (L.getD 6 0), ad (H.getD 7 0) (L.getD 7 0)]) := HBK
      clear HBK HC8 HSB HRL HRT HR0 HR6 HRS HKB6 HHG6 HFL HFB HFJ HCP HPW
      have a0 := wrap32_add (H.getD 0 0) (L.getD 0 0)
      have a1 := wrap32_add (H.getD 1 0) (L.getD 1 0)
      have a2 := wrap32_add (H.getD 2 0) (L.getD 2 0)
      have a3 := wrap32_add (H.getD 3 0) (L.getD 3 0)
      have a4 := wrap32_add (H.getD 4 0) (L.getD 4 0)
      have a5 := wrap32_add (H.getD 5 0) (L.getD 5 0)
      have a6 := wrap32_add (H.getD 6 0) (L.getD 6 0)
      have a7 := wrap32_add (H.getD 7 0) (L.getD 7 0)
      generalize ad (H.getD 0 0) (L.getD 0 0) = q0 at *
      generalize H.getD 0 0 = h0 at *
      generalize L.getD 0 0 = l0 at *
      generalize ad (H.getD 1 0) (L.getD 1 0) = q1 at *
      generalize H.getD 1 0 = h1 at *
      generalize L.getD 1 0 = l1 at *
      generalize ad (H.getD 2 0) (L.getD 2 0) = q2 at *
      generalize H.getD 2 0 = h2 at *
      generalize L.getD 2 0 = l2 at *
      generalize ad (H.getD 3 0) (L.getD 3 0) = q3 at *
      generalize H.getD 3 0 = h3 at *
      generalize L.getD 3 0 = l3 at *
      generalize ad (H.getD 4 0) (L.getD 4 0) = q4 at *
      generalize H.getD 4 0 = h4 at *
      generalize L.getD 4 0 = l4 at *
      generalize ad (H.getD 5 0) (L.getD 5 0) = q5 at *
      generalize H.getD 5 0 = h5 at *
      generalize L.getD 5 0 = l5 at *
      generalize ad (H.getD 6 0) (L.getD 6 0) = q6 at *
      generalize H.getD 6 0 = h6 at *
      generalize L.getD 6 0 = l6 at *
      generalize ad (H.getD 7 0) (L.getD 7 0) = q7 at *
      generalize H.getD 7 0 = h7 at *
      generalize L.getD 7 0 = l7 at *
      refine wp_region_still_tail 40 (by kernel_rfl) (by kernel_rfl) ?_
      simp only [List.take_succ_cons, List.take_zero, List.drop_succ_cons, List.drop_zero]
      repeat still_step
      try refine wpStill_nil ?_
      change wpList _ _ _ _ _ Y.drew
      go_wp2_with fail
      have hbn : Blk ((Y.alloc (Obj.cells (vw [q0, q1, q2, q3, q4, q5, q6, q7]) 69)).drew) Y.heap.size 69 (vw [q0, q1, q2, q3, q4, q5, q6, q7]) := Blk.new Y _ _
      have hbe : Below wr.heap.size wr ((Y.alloc (Obj.cells (vw [q0, q1, q2, q3, q4, q5, q6, q7]) 69)).drew) := (HBY.out.alloc HBY.out.size _).drew
      refine ⟨⟨j + 1, by omega, HT6.out, by congr 1 <;> omega, ⟨Y.heap.size, rfl, ?_⟩, HBQ.out.trans (hbe.mono HBQ.out.size)⟩, ?_⟩
      · rw [HBK2.out]
        exact hbn
      · simp only [intOf]; omega
    · obtain rfl : j = nb := by omega
      go_wp2_with fail
      exact hexit _ _ _ _ _ _ _ _ _ _ _ _ _ _ _ _ _ _ _ _ _ _ _ _ _ _ _ _ _ _ _ _ _ _ _ _ _ _ _ _ _ _ _ _ _ _ _ _ _ _ _ _ _ _ _ _ _ _ _ _ _ _ _ _ _ _ _ _ _ _ _ _ _ _ _ _ _ _ _ _ _ _ _ _ _ _ _ _ _ _ _ _ _ _ _ _ _ _ _ _ _ _ _ _ _ _ _ _ _ _ _ _ _ _ _ _ _ _ _ _ _ _ _ _ _ _ _ _ _ _ _ _ _ _ _ _ _ _ _ _ _ _ _ _ _ _ _ _ _ _ _ _ _ _ _ _ _ _ _ _ _ _ _ _ _ _ _ _ _ _ _ _ _ _ _ _ _ _ _ _ _ _ _ _ _ _ _ _ _ _ _ _ _ _ _ _ _ _ _ _ _ _ _ _ _ _ _ _ _ _ _ _ _ _ _ _ _ _ _ _ _ _ _ _ _ _ _ _ _ _ _ _ _ _ _ _ _ _ _ HHG.out HBQ.out
end Go.Proofs.YthlmlmkabjppeaaDoor
