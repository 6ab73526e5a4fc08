/- Parts, one behind the other: Rl8 Rl2 Rl10 Rsm3 Ss1 Ss2 Ss3. -/
import Derived.Test.YtdbfikcpaionbaaDoorZ04
import Derived.StillTailTactics
/- Contract: the document's fingerprint: the rounds. -/
namespace Go.Proofs.YtdbfikcpaionbaaDoor
open Go.RowKit
set_option linter.unusedVariables false
set_option linter.unusedSimpArgs false
set_option maxRecDepth 1000000 in
set_option maxHeartbeats 40000000 in
theorem loop8 (Q : Exit → Act → World → Prop) (wq : World) (gk k8 : Nat) (ad8 : Addr) (S H L : List Nat) (R : Nat → List Nat) (c0 c1 c2 c3 c4 c6 c8 c9 c10 c11 c21 c22 c23 c24 c25 c26 c27 c28 c29 c30 c31 c32 c33 c34 c35 c36 c37 c38 c39 c40 c41 c42 c43 c44 c45 c46 c47 c48 c49 c50 c51 c52 c53 c54 c55 c56 c57 c58 c59 c60 c61 c62 c63 c64 c65 c66 c67 c68 c69 c70 c71 c72 c73 c74 c75 c76 c77 c78 c79 c80 c81 c82 c83 c84 c85 c86 c87 c88 c89 c90 c91 c92 c93 c94 c95 c96 c97 c98 c99 c100 c101 c102 c103 c104 c105 c106 c107 c108 c109 c110 c111 c112 c113 c114 c115 c116 c117 c118 c119 c120 c121 c122 c123 c124 c125 c126 c127 c128 c129 c130 c131 c132 c133 c134 c135 c136 c137 c138 c139 c140 c141 c142 c143 c144 c145 c146 c147 c148 c149 c150 c151 c152 c153 c154 c155 c156 c157 c158 c159 c160 c161 c162 c163 c164 c165 c166 c167 c168 c169 c170 c171 c172 c173 c174 c175 c176 c177 c178 c179 c180 c181 c182 c183 c184 c185 c186 c187 c188 c189 c190 c191 c192 c193 c194 c195 c196 c197 c198 c199 c200 c201 c202 c203 c204 c205 c206 c207 c208 c209 c210 c211 c212 c213 c214 c215 c216 c217 c218 c219 c220 c221 c222 c223 c224 c225 c226 c227 c228 c229 c230 c231 c232 c233 c234 c235 c236 c237 c238 c239 c240 c241 c242 c243 c244 c245 c246 c247 c248 c249 c250 c251 c252 c253 c254 c255 c256 c257 c258 c259 c260 c261 c262 c263 c264 c265 c266 c267 c268 c269 c270 c271 c272 c273 c274 c275 c276 c277 c278 c279 c280 c281 c282 c283 c284 : Value)
    (HKB : Hid (Blk wq gk 78 (vw kc))) (HWC : Hid (∀ i, i < 64 → wq.cell? (ad8.add i) = some (.int .u32 (S.getD i 0 : Nat))))
    (hk8 : 64 ≤ k8) (HWL : Hid (∀ i, S.getD i 0 < 4294967296)) (HRL : Hid (∀ k, (R k).length = 8)) (HRT : Hid (∀ k, ∀ c ∈ R k, c < 4294967296)) (HR0 : Hid (R 0 = H)) (HR6 : Hid (R 64 = L))
    (HRS : Hid (∀ k, R (k + 1) = rnd (kc.getD k 0) (S.getD k 0) (R k)))
    (hexit : ∀ (u20 u21 u22 u23 u160 u161 u162 u163 u164 u165 u166 u167 u168 u169 u170 u171 u172 u173 u174 u175 u176 u177 u178 u179 u180 u181 u182 u183 u184 u185 u186 u187 u188 u189 u190 u191 u192 u193 u194 u195 u196 u197 u198 u199 u200 u201 u202 u203 u204 u205 u206 u207 u208 u209 u210 u211 u212 u213 u214 u215 u216 u217 u218 u219 u220 u221 u222 u223 u224 u225 : Value) (n : Nat), Q (.exit 8) ⟨(c0 :: c1 :: c2 :: c3 :: c4 :: (.slice (some ⟨gk, 0, none⟩) 64 64) :: c6 :: (.slice (some ad8) 64 k8) :: c8 :: c9 :: c10 :: c11 :: (.int .u32 (L.getD 0 0 : Nat)) :: (.int .u32 (L.getD 1 0 : Nat)) :: (.int .u32 (L.getD 2 0 : Nat)) :: (.int .u32 (L.getD 3 0 : Nat)) :: (.int .u32 (L.getD 4 0 : Nat)) :: (.int .u32 (L.getD 5 0 : Nat)) :: (.int .u32 (L.getD 6 0 : Nat)) :: (.int .u32 (L.getD 7 0 : Nat)) :: u20 :: u21 :: u22 :: u23 :: c24 :: c25 :: c26 :: c27 :: c28 :: c29 :: c30 :: c31 :: c32 :: c33 :: c34 :: c35 :: c36 :: c37 :: c38 :: c39 :: c40 :: c41 :: c42 :: c43 :: c44 :: c45 :: c46 :: c47 :: c48 :: c49 :: c50 :: c51 :: c52 :: c53 :: c54 :: c55 :: c56 :: c57 :: c58 :: c59 :: c60 :: c61 :: c62 :: c63 :: c64 :: c65 :: c66 :: c67 :: c68 :: c69 :: c70 :: c71 :: c72 :: c73 :: c74 :: c75 :: c76 :: c77 :: c78 :: c79 :: c80 :: c81 :: c82 :: c83 :: c84 :: c85 :: c86 :: c87 :: c88 :: c89 :: c90 :: c91 :: c92 :: c93 :: c94 :: c95 :: c96 :: c97 :: c98 :: c99 :: c100 :: c101 :: c102 :: c103 :: c104 :: c105 :: c106 :: c107 :: c108 :: c109 :: c110 :: c111 :: c112 :: c113 :: c114 :: c115 :: c116 :: c117 :: c118 :: c119 :: c120 :: c121 :: c122 :: c123 :: c124 :: c125 :: c126 :: c127 :: c128 :: c129 :: c130 :: c131 :: c132 :: c133 :: c134 :: c135 :: c136 :: c137 :: c138 :: c139 :: c140 :: c141 :: c142 :: c143 :: c144 :: c145 :: c146 :: c147 :: c148 :: c149 :: c150 :: c151 :: c152 :: c153 :: c154 :: c155 :: c156 :: c157 :: c158 :: c159 :: u160 :: u161 :: u162 :: u163 :: u164 :: u165 :: u166 :: u167 :: u168 :: u169 :: u170 :: u171 :: u172 :: u173 :: u174 :: u175 :: u176 :: u177 :: u178 :: u179 :: u180 :: u181 :: u182 :: u183 :: u184 :: u185 :: u186 :: u187 :: u188 :: u189 :: u190 :: u191 :: u192 :: u193 :: u194 :: u195 :: u196 :: u197 :: u198 :: u199 :: u200 :: u201 :: u202 :: u203 :: u204 :: u205 :: u206 :: u207 :: u208 :: u209 :: u210 :: u211 :: u212 :: u213 :: u214 :: u215 :: u216 :: u217 :: u218 :: u219 :: u220 :: u221 :: u222 :: u223 :: u224 :: u225 :: c226 :: c227 :: c228 :: c229 :: c230 :: c231 :: c232 :: c233 :: c234 :: c235 :: c236 :: c237 :: c238 :: c239 :: c240 :: c241 :: c242 :: c243 :: c244 :: c245 :: c246 :: c247 :: c248 :: c249 :: c250 :: c251 :: c252 :: c253 :: c254 :: c255 :: c256 :: c257 :: c258 :: c259 :: c260 :: c261 :: c262 :: c263 :: c264 :: c265 :: c266 :: c267 :: c268 :: c269 :: c270 :: c271 :: c272 :: c273 :: c274 :: c275 :: c276 :: c277 :: c278 :: c279 :: c280 :: c281 :: c282 :: c283 :: c284 :: []).toArray, []⟩ (wq.drewN n)) :
    Code.wp Tryd.prog (lp 8) Q ⟨(c0 :: c1 :: c2 :: c3 :: c4 :: (.slice (some ⟨gk, 0, none⟩) 64 64) :: c6 :: (.slice (some ad8) 64 k8) :: c8 :: c9 :: c10 :: c11 :: (.int .u32 (H.getD 0 0 : Nat)) :: (.int .u32 (H.getD 1 0 : Nat)) :: (.int .u32 (H.getD 2 0 : Nat)) :: (.int .u32 (H.getD 3 0 : Nat)) :: (.int .u32 (H.getD 4 0 : Nat)) :: (.int .u32 (H.getD 5 0 : Nat)) :: (.int .u32 (H.getD 6 0 : Nat)) :: (.int .u32 (H.getD 7 0 : Nat)) :: (.int .i64 0) :: c21 :: c22 :: c23 :: c24 :: c25 :: c26 :: c27 :: c28 :: c29 :: c30 :: c31 :: c32 :: c33 :: c34 :: c35 :: c36 :: c37 :: c38 :: c39 :: c40 :: c41 :: c42 :: c43 :: c44 :: c45 :: c46 :: c47 :: c48 :: c49 :: c50 :: c51 :: c52 :: c53 :: c54 :: c55 :: c56 :: c57 :: c58 :: c59 :: c60 :: c61 :: c62 :: c63 :: c64 :: c65 :: c66 :: c67 :: c68 :: c69 :: c70 :: c71 :: c72 :: c73 :: c74 :: c75 :: c76 :: c77 :: c78 :: c79 :: c80 :: c81 :: c82 :: c83 :: c84 :: c85 :: c86 :: c87 :: c88 :: c89 :: c90 :: c91 :: c92 :: c93 :: c94 :: c95 :: c96 :: c97 :: c98 :: c99 :: c100 :: c101 :: c102 :: c103 :: c104 :: c105 :: c106 :: c107 :: c108 :: c109 :: c110 :: c111 :: c112 :: c113 :: c114 :: c115 :: c116 :: c117 :: c118 :: c119 :: c120 :: c121 :: c122 :: c123 :: c124 :: c125 :: c126 :: c127 :: c128 :: c129 :: c130 :: c131 :: c132 :: c133 :: c134 :: c135 :: c136 :: c137 :: c138 :: c139 :: c140 :: c141 :: c142 :: c143 :: c144 :: c145 :: c146 :: c147 :: c148 :: c149 :: c150 :: c151 :: c152 :: c153 :: c154 :: c155 :: c156 :: c157 :: c158 :: c159 :: c160 :: c161 :: c162 :: c163 :: c164 :: c165 :: c166 :: c167 :: c168 :: c169 :: c170 :: c171 :: c172 :: c173 :: c174 :: c175 :: c176 :: c177 :: c178 :: c179 :: c180 :: c181 :: c182 :: c183 :: c184 :: c185 :: c186 :: c187 :: c188 :: c189 :: c190 :: c191 :: c192 :: c193 :: c194 :: c195 :: c196 :: c197 :: c198 :: c199 :: c200 :: c201 :: c202 :: c203 :: c204 :: c205 :: c206 :: c207 :: c208 :: c209 :: c210 :: c211 :: c212 :: c213 :: c214 :: c215 :: c216 :: c217 :: c218 :: c219 :: c220 :: c221 :: c222 :: c223 :: c224 :: c225 :: c226 :: c227 :: c228 :: c229 :: c230 :: c231 :: c232 :: c233 :: c234 :: c235 :: c236 :: c237 :: c238 :: c239 :: c240 :: c241 :: c242 :: c243 :: c244 :: c245 :: c246 :: c247 :: c248 :: c249 :: c250 :: c251 :: c252 :: c253 :: c254 :: c255 :: c256 :: c257 :: c258 :: c259 :: c260 :: c261 :: c262 :: c263 :: c264 :: c265 :: c266 :: c267 :: c268 :: c269 :: c270 :: c271 :: c272 :: c273 :: c274 :: c275 :: c276 :: c277 :: c278 :: c279 :: c280 :: c281 :: c282 :: c283 :: c284 :: []).toArray, []⟩ wq := by
  conv => arg 2; whnf
  go_loopw [12, 13, 14, 15, 16, 17, 18, 19, 20] (fun z0 z1 z2 z3 z4 z5 z6 z7 z20 wr => ∃ k n : Nat, k ≤ 64 ∧ z20 = .int .i64 (k : Int) ∧ wr = wq.drewN n ∧ z0 = .int .u32 ((R k).getD 0 0 : Nat) ∧ z1 = .int .u32 ((R k).getD 1 0 : Nat) ∧ z2 = .int .u32 ((R k).getD 2 0 : Nat) ∧ z3 = .int .u32 ((R k).getD 3 0 : Nat) ∧ z4 = .int .u32 ((R k).getD 4 0 : Nat) ∧ z5 = .int .u32 ((R k).getD 5 0 : Nat) ∧ z6 = .int .u32 ((R k).getD 6 0 : Nat) ∧ z7 = .int .u32 ((R k).getD 7 0 : Nat)) (fun _ _ _ _ _ _ _ _ z20 _ => 64 - (intOf z20).toNat)
  case atStart => exact ⟨0, 0, by omega, rfl, rfl, by rw [HR0.out], by rw [HR0.out], by rw [HR0.out], by rw [HR0.out], by rw [HR0.out], by rw [HR0.out], by rw [HR0.out], by rw [HR0.out]⟩
  case round =>
    rename World => wr
    obtain ⟨k, n, hk, rfl, rfl, rfl, rfl, rfl, rfl, rfl, rfl, rfl, rfl⟩ := hrel
    by_cases hlt : k < 64
    · have hwl := HWL.out k
      have hwc : wq.cell? (ad8.add k) = some (.int .u32 (S.getD k 0 : Nat)) := HWC.out k hlt
      have hkl : kc.getD k 0 < 4294967296 := by
        rw [List.getD_eq_getElem?_getD, List.getElem?_eq_getElem (show k < kc.length from hlt)]
        exact (show ∀ c ∈ kc, c < 4294967296 by decide) _ (List.getElem_mem _)
      have hkc : wq.cell? ⟨gk, k, none⟩ = some (.int .u32 (kc.getD k 0 : Nat)) := by
        have h1 := HKB.out.cell k
        rw [vw_at _ _ hlt] at h1
        refine h1.trans ?_
        rw [List.getD_eq_getElem?_getD]
      have HST := Lib.hid (HRS.out k)
      have hvl := HRT.out k
      obtain ⟨v0, v1, v2, v3, v4, v5, v6, v7, hv⟩ := len8 (HRL.out k)
      rw [hv] at HST hvl ⊢
      clear hv
      generalize S.getD k 0 = ww at *
      generalize kc.getD k 0 = kk at *
      have l0 := hvl v0 (by simp)
      have l1 := hvl v1 (by simp)
      have l2 := hvl v2 (by simp)
      have l3 := hvl v3 (by simp)
      have l4 := hvl v4 (by simp)
      have l5 := hvl v5 (by simp)
      have l6 := hvl v6 (by simp)
      have l7 := hvl v7 (by simp)
      clear hvl
      simp only [List.getD_cons_zero, List.getD_cons_succ]
      have K6 := Lib.hid (show ∀ W, Calls Tryd.prog 49 #[.int .u32 (v4 : Nat), .int .i64 6] W fun e w' => e = .returned (.int .u32 (rotr v4 6 : Nat)) ∧ W = w' from fun W => rturn_c v4 6 W (by assumption) (by decide))
      have K11 := Lib.hid (show ∀ W, Calls Tryd.prog 49 #[.int .u32 (v4 : Nat), .int .i64 11] W fun e w' => e = .returned (.int .u32 (rotr v4 11 : Nat)) ∧ W = w' from fun W => rturn_c v4 11 W (by assumption) (by decide))
      have K25 := Lib.hid (show ∀ W, Calls Tryd.prog 49 #[.int .u32 (v4 : Nat), .int .i64 25] W fun e w' => e = .returned (.int .u32 (rotr v4 25 : Nat)) ∧ W = w' from fun W => rturn_c v4 25 W (by assumption) (by decide))
      have K2 := Lib.hid (show ∀ W, Calls Tryd.prog 49 #[.int .u32 (v0 : Nat), .int .i64 2] W fun e w' => e = .returned (.int .u32 (rotr v0 2 : Nat)) ∧ W = w' from fun W => rturn_c v0 2 W (by assumption) (by decide))
      have K13 := Lib.hid (show ∀ W, Calls Tryd.prog 49 #[.int .u32 (v0 : Nat), .int .i64 13] W fun e w' => e = .returned (.int .u32 (rotr v0 13 : Nat)) ∧ W = w' from fun W => rturn_c v0 13 W (by assumption) (by decide))
      have K22 := Lib.hid (show ∀ W, Calls Tryd.prog 49 #[.int .u32 (v0 : Nat), .int .i64 22] W fun e w' => e = .returned (.int .u32 (rotr v0 22 : Nat)) ∧ W = w' from fun W => rturn_c v0 22 W (by assumption) (by decide))
      have e1 : bits BinOp.xor .u32 ((rotr v4 6 : Nat) : Int) ((rotr v4 11 : Nat) : Int) = ((rotr v4 6 ^^^ rotr v4 11 : Nat) : Int) := u32_xor_nat _ _ (rotr_lt l4 (by decide)) (rotr_lt l4 (by decide))
      have e2 : bits BinOp.xor .u32 ((rotr v4 6 ^^^ rotr v4 11 : Nat) : Int) ((rotr v4 25 : Nat) : Int) = ((b1 v4 : Nat) : Int) := u32_xor_nat _ _ (xor_w (rotr_lt l4 (by decide)) (rotr_lt l4 (by decide))) (rotr_lt l4 (by decide))
      have e3 : bits BinOp.xor .u32 ((rotr v0 2 : Nat) : Int) ((rotr v0 13 : Nat) : Int) = ((rotr v0 2 ^^^ rotr v0 13 : Nat) : Int) := u32_xor_nat _ _ (rotr_lt l0 (by decide)) (rotr_lt l0 (by decide))
      have e4 : bits BinOp.xor .u32 ((rotr v0 2 ^^^ rotr v0 13 : Nat) : Int) ((rotr v0 22 : Nat) : Int) = ((b0 v0 : Nat) : Int) := u32_xor_nat _ _ (xor_w (rotr_lt l0 (by decide)) (rotr_lt l0 (by decide))) (rotr_lt l0 (by decide))
      have nx : (4294967295 : Int) - (v4 : Int) = ((4294967295 - v4 : Nat) : Int) := by omega
      have f1 := u32_and_nat v4 v5 l4 l5
      have f2 := u32_and_nat (4294967295 - v4) v6 (by omega) l6
      have f3 : bits BinOp.xor .u32 ((v4 &&& v5 : Nat) : Int) (((4294967295 - v4) &&& v6 : Nat) : Int) = ((chf v4 v5 v6 : Nat) : Int) := u32_xor_nat _ _ (and_w l4) (and_w (by omega))
      have f4 := u32_and_nat v0 v1 l0 l1
      have f5 := u32_and_nat v0 v2 l0 l2
      have f6 := u32_and_nat v1 v2 l1 l2
      have f7 : bits BinOp.xor .u32 ((v0 &&& v1 : Nat) : Int) ((v0 &&& v2 : Nat) : Int) = (((v0 &&& v1) ^^^ (v0 &&& v2) : Nat) : Int) := u32_xor_nat _ _ (and_w l0) (and_w l0)
      have f8 : bits BinOp.xor .u32 (((v0 &&& v1) ^^^ (v0 &&& v2) : Nat) : Int) ((v1 &&& v2 : Nat) : Int) = ((maj v0 v1 v2 : Nat) : Int) := u32_xor_nat _ _ (xor_w (and_w l0) (and_w l0)) (and_w l1)
      have g1 := wrap32_add v7 (b1 v4)
      have g2 := wrap32_add (ad v7 (b1 v4)) (chf v4 v5 v6)
      have g3 := wrap32_add (ad (ad v7 (b1 v4)) (chf v4 v5 v6)) kk
      have g4 := wrap32_add (ad (ad (ad v7 (b1 v4)) (chf v4 v5 v6)) kk) ww
      have g5 := wrap32_add (b0 v0) (maj v0 v1 v2)
      have g6 := wrap32_add v3 (ad (ad (ad (ad v7 (b1 v4)) (chf v4 v5 v6)) kk) ww)
      have g7 := wrap32_add (ad (ad (ad (ad v7 (b1 v4)) (chf v4 v5 v6)) kk) ww) (ad (b0 v0) (maj v0 v1 v2))
      have hrnd : rnd kk ww [v0, v1, v2, v3, v4, v5, v6, v7] = [ad (ad (ad (ad (ad v7 (b1 v4)) (chf v4 v5 v6)) kk) ww) (ad (b0 v0) (maj v0 v1 v2)), v0, v1, v2, ad v3 (ad (ad (ad (ad v7 (b1 v4)) (chf v4 v5 v6)) kk) ww), v4, v5, v6] := rfl
      rw [hrnd] at HST
      clear hrnd
      generalize ad (ad (ad (ad (ad v7 (b1 v4)) (chf v4 v5 v6)) kk) ww) (ad (b0 v0) (maj v0 v1 v2)) = n0 at *
      generalize ad v3 (ad (ad (ad (ad v7 (b1 v4)) (chf v4 v5 v6)) kk) ww) = n4 at *
      generalize ad (ad (ad (ad v7 (b1 v4)) (chf v4 v5 v6)) kk) ww = one at *
      generalize ad (b0 v0) (maj v0 v1 v2) = two at *
      generalize ad (ad (ad v7 (b1 v4)) (chf v4 v5 v6)) kk = o3 at *
      generalize ad (ad v7 (b1 v4)) (chf v4 v5 v6) = o2 at *
      generalize ad v7 (b1 v4) = o1 at *
      generalize maj v0 v1 v2 = mj at *
      generalize chf v4 v5 v6 = cf at *
      generalize b1 v4 = bE at *
      generalize b0 v0 = bA at *
      generalize (4294967295 - v4) &&& v6 = q2 at *
      generalize 4294967295 - v4 = q1 at *
      generalize (v0 &&& v1) ^^^ (v0 &&& v2) = q6 at *
      generalize v0 &&& v1 = q3 at *
      generalize v0 &&& v2 = q4 at *
      generalize v1 &&& v2 = q5 at *
      generalize v4 &&& v5 = q0 at *
      generalize rotr v4 6 ^^^ rotr v4 11 = r0 at *
      generalize rotr v0 2 ^^^ rotr v0 13 = r1 at *
      generalize rotr v4 6 = r2 at *
      generalize rotr v4 11 = r3 at *
      generalize rotr v4 25 = r4 at *
      generalize rotr v0 2 = r5 at *
      generalize rotr v0 13 = r6 at *
      generalize rotr v0 22 = r7 at *
      go_wp2_with (first
        | (go_at_call 49; (with_reducible refine (K6.out _).mono ?_); rintro e wn ⟨rfl, rfl⟩)
        | (go_at_call 49; (with_reducible refine (K11.out _).mono ?_); rintro e wn ⟨rfl, rfl⟩)
        | (go_at_call 49; (with_reducible refine (K25.out _).mono ?_); rintro e wn ⟨rfl, rfl⟩))
      refine wp_region_quiet_lit (by kernel_rfl) (by kernel_rfl) ?_
      repeat (go_big_quiet_step (fail))
      refine wpQuiet_nil ?_
      rintro _ ⟨n6, rfl⟩
      go_wp2_with (first
        | (go_at_call 49; (with_reducible refine (K2.out _).mono ?_); rintro e wn ⟨rfl, rfl⟩)
        | (go_at_call 49; (with_reducible refine (K13.out _).mono ?_); rintro e wn ⟨rfl, rfl⟩)
        | (go_at_call 49; (with_reducible refine (K22.out _).mono ?_); rintro e wn ⟨rfl, rfl⟩))
      refine ⟨⟨k + 1, n + n6, by omega, by congr 1, ?_, ?_, ?_, ?_, ?_, ?_, ?_, ?_, ?_⟩, ?_⟩
      · first | rfl | exact World.drewN_drewN _ _ _
      all_goals first
        | (rw [HST.out]; simp only [List.getD_cons_zero, List.getD_cons_succ])
        | (simp only [intOf]; omega)
    · obtain rfl : k = 64 := by omega
      rw [HR6.out]
      go_wp2_with fail
      exact hexit _ _ _ _ _ _ _ _ _ _ _ _ _ _ _ _ _ _ _ _ _ _ _ _ _ _ _ _ _ _ _ _ _ _ _ _ _ _ _ _ _ _ _ _ _ _ _ _ _ _ _ _ _ _ _ _ _ _ _ _ _ _ _ _ _ _ _ _ _ _ _
end Go.Proofs.YtdbfikcpaionbaaDoor
/- Contract: the document's fingerprint: the blocks. -/
namespace Go.Proofs.YtdbfikcpaionbaaDoor
open Go.RowKit
set_option linter.unusedVariables false
set_option linter.unusedSimpArgs false
theorem rds_next (l h : List Nat) (k : Nat) : rds l h (k + 1) = rnd (kc.getD k 0) ((sch l 64).getD k 0) (rds l h k) := rfl
def blk8 (h l : List Nat) : List Nat := [ad (h.getD 0 0) (l.getD 0 0), ad (h.getD 1 0) (l.getD 1 0), ad (h.getD 2 0) (l.getD 2 0), ad (h.getD 3 0) (l.getD 3 0), ad (h.getD 4 0) (l.getD 4 0), ad (h.getD 5 0) (l.getD 5 0), ad (h.getD 6 0) (l.getD 6 0), ad (h.getD 7 0) (l.getD 7 0)]
theorem blk_eq (l h : List Nat) : blk l h = blk8 h (rds l h 64) := by
  unfold blk
  generalize rds l h 64 = L
  rfl
theorem vw_at' (l : List Nat) (k : Nat) (h : k < l.length) : (vw l)[k]? = some (.int .u32 (l.getD k 0 : Nat)) := by
  rw [vw_at _ _ h, List.getD_eq_getElem?_getD]
set_option maxRecDepth 1000000 in
set_option maxHeartbeats 40000000 in
theorem loop2 (Q : Exit → Act → World → Prop) (wq : World) (gp nb kp gk gh : Nat) (P : List Nat) (rest : List Value) (F : Nat → List Nat) (t134 : Value) (c0 c1 c2 c7 c8 c9 c10 c11 c12 c13 c14 c15 c16 c17 c18 c19 c20 c21 c22 c23 c24 c25 c26 c27 c28 c29 c30 c31 c32 c33 c34 c35 c36 c37 c38 c39 c40 c41 c42 c43 c44 c45 c46 c47 c48 c49 c50 c51 c52 c53 c54 c55 c56 c57 c58 c59 c60 c61 c62 c63 c64 c65 c66 c67 c68 c69 c70 c71 c72 c73 c74 c75 c76 c77 c78 c79 c80 c81 c82 c83 c84 c85 c86 c87 c88 c89 c90 c91 c92 c93 c94 c95 c96 c97 c98 c99 c100 c101 c102 c103 c104 c105 c106 c107 c108 c109 c110 c111 c112 c113 c114 c115 c116 c117 c118 c119 c120 c121 c122 c123 c124 c125 c126 c127 c128 c129 c130 c131 c132 c133 c135 c136 c137 c138 c139 c140 c141 c142 c143 c144 c145 c146 c147 c148 c149 c150 c151 c152 c153 c154 c155 c156 c157 c158 c159 c160 c161 c162 c163 c164 c165 c166 c167 c168 c169 c170 c171 c172 c173 c174 c175 c176 c177 c178 c179 c180 c181 c182 c183 c184 c185 c186 c187 c188 c189 c190 c191 c192 c193 c194 c195 c196 c197 c198 c199 c200 c201 c202 c203 c204 c205 c206 c207 c208 c209 c210 c211 c212 c213 c214 c215 c216 c217 c218 c219 c220 c221 c222 c223 c224 c225 c226 c227 c228 c229 c230 c231 c232 c233 c234 c235 c236 c237 c238 c239 c240 c241 c242 c243 c244 c245 c246 c247 c248 c249 c250 c251 c252 c253 c254 c255 c256 c257 c258 c259 c260 c261 c262 c263 c264 c265 c266 c267 c268 c269 c270 c271 c272 c273 c274 c275 c276 c277 c278 c279 c280 c281 c282 c283 c284 : Value)
    (hnbl : nb ≤ 1000) (hkp : 64 * nb ≤ kp) (hkp2 : kp ≤ maxLen) (HPD : Hid (∀ c ∈ P, c < 256)) (HPN : Hid (P.length = 64 * nb))
    (HPB : Hid (Blk wq gp 5 (byt P ++ rest).toArray)) (HKB : Hid (Blk wq gk 78 (vw kc))) (HHB : Hid (Blk wq gh 78 (vw (F 0))))
    (HF8 : Hid (∀ j, (F j).length = 8)) (HFT : Hid (∀ j, ∀ c ∈ F j, c < 4294967296)) (HFS : Hid (∀ j, F (j + 1) = blk ((P.drop (64 * j)).take 64) (F j))) (h134 : isTok t134 = false)
    (hexit : ∀ (u6 u7 u8 u9 u10 u11 u12 u13 u14 u15 u16 u17 u18 u19 u20 u21 u22 u23 u48 u49 u50 u51 u52 u53 u54 u55 u56 u57 u58 u59 u60 u61 u62 u63 u64 u65 u66 u67 u68 u69 u70 u71 u72 u73 u74 u75 u76 u77 u78 u79 u80 u81 u82 u83 u84 u85 u86 u87 u88 u89 u90 u91 u92 u93 u94 u95 u96 u97 u98 u99 u100 u101 u102 u103 u104 u105 u106 u107 u108 u109 u110 u111 u112 u113 u114 u115 u116 u117 u118 u119 u120 u121 u122 u123 u124 u125 u126 u127 u128 u129 u130 u131 u132 u133 u134 u135 u136 u137 u138 u139 u140 u141 u142 u143 u144 u145 u146 u147 u148 u149 u150 u151 u152 u153 u154 u155 u156 u157 u158 u159 u160 u161 u162 u163 u164 u165 u166 u167 u168 u169 u170 u171 u172 u173 u174 u175 u176 u177 u178 u179 u180 u181 u182 u183 u184 u185 u186 u187 u188 u189 u190 u191 u192 u193 u194 u195 u196 u197 u198 u199 u200 u201 u202 u203 u204 u205 u206 u207 u208 u209 u210 u211 u212 u213 u214 u215 u216 u217 u218 u219 u220 u221 u222 u223 u224 u225 u226 u227 u228 u229 u230 u231 u232 u233 u234 u235 u236 u237 u238 u239 u240 u241 u242 u243 u244 u245 u246 u247 u248 u249 u250 u251 u252 u253 u254 u255 u256 u257 u258 u259 u260 u261 u262 u263 u264 u265 u266 : Value) (g : Nat) (ws : World), Blk ws g 78 (vw (F nb)) → Below wq.heap.size wq ws → Q (.exit 2) ⟨(c0 :: c1 :: c2 :: (.slice (some ⟨gp, 0, none⟩) (64 * nb) kp) :: (.slice (some ⟨g, 0, none⟩) 8 8) :: (.slice (some ⟨gk, 0, none⟩) 64 64) :: u6 :: u7 :: u8 :: u9 :: u10 :: u11 :: u12 :: u13 :: u14 :: u15 :: u16 :: u17 :: u18 :: u19 :: u20 :: u21 :: u22 :: u23 :: c24 :: c25 :: c26 :: c27 :: c28 :: c29 :: c30 :: c31 :: c32 :: c33 :: c34 :: c35 :: c36 :: c37 :: c38 :: c39 :: c40 :: c41 :: c42 :: c43 :: c44 :: c45 :: c46 :: c47 :: u48 :: u49 :: u50 :: u51 :: u52 :: u53 :: u54 :: u55 :: u56 :: u57 :: u58 :: u59 :: u60 :: u61 :: u62 :: u63 :: u64 :: u65 :: u66 :: u67 :: u68 :: u69 :: u70 :: u71 :: u72 :: u73 :: u74 :: u75 :: u76 :: u77 :: u78 :: u79 :: u80 :: u81 :: u82 :: u83 :: u84 :: u85 :: u86 :: u87 :: u88 :: u89 :: u90 :: u91 :: u92 :: u93 :: u94 :: u95 :: u96 :: u97 :: u98 :: u99 :: u100 :: u101 :: u102 :: u103 :: u104 :: u105 :: u106 :: u107 :: u108 :: u109 :: u110 :: u111 :: u112 :: u113 :: u114 :: u115 :: u116 :: u117 :: u118 :: u119 :: u120 :: u121 :: u122 :: u123 :: u124 :: u125 :: u126 :: u127 :: u128 :: u129 :: u130 :: u131 :: u132 :: u133 :: u134 :: u135 :: u136 :: u137 :: u138 :: u139 :: u140 :: u141 :: u142 :: u143 :: u144 :: u145 :: u146 :: u147 :: u148 :: u149 :: u150 :: u151 :: u152 :: u153 :: u154 :: u155 :: u156 :: u157 :: u158 :: u159 :: u160 :: u161 :: u162 :: u163 :: u164 :: u165 :: u166 :: u167 :: u168 :: u169 :: u170 :: u171 :: u172 :: u173 :: u174 :: u175 :: u176 :: u177 :: u178 :: u179 :: u180 :: u181 :: u182 :: u183 :: u184 :: u185 :: u186 :: u187 :: u188 :: u189 :: u190 :: u191 :: u192 :: u193 :: u194 :: u195 :: u196 :: u197 :: u198 :: u199 :: u200 :: u201 :: u202 :: u203 :: u204 :: u205 :: u206 :: u207 :: u208 :: u209 :: u210 :: u211 :: u212 :: u213 :: u214 :: u215 :: u216 :: u217 :: u218 :: u219 :: u220 :: u221 :: u222 :: u223 :: u224 :: u225 :: u226 :: u227 :: u228 :: u229 :: u230 :: u231 :: u232 :: u233 :: u234 :: u235 :: u236 :: u237 :: u238 :: u239 :: u240 :: u241 :: u242 :: u243 :: u244 :: u245 :: u246 :: u247 :: u248 :: u249 :: u250 :: u251 :: u252 :: u253 :: u254 :: u255 :: u256 :: u257 :: u258 :: u259 :: u260 :: u261 :: u262 :: u263 :: u264 :: u265 :: u266 :: c267 :: c268 :: c269 :: c270 :: c271 :: c272 :: c273 :: c274 :: c275 :: c276 :: c277 :: c278 :: c279 :: c280 :: c281 :: c282 :: c283 :: c284 :: []).toArray, []⟩ ws) :
    Code.wp Tryd.prog (lp 2) Q ⟨(c0 :: c1 :: c2 :: (.slice (some ⟨gp, 0, none⟩) (64 * nb) kp) :: (.slice (some ⟨gh, 0, none⟩) 8 8) :: (.slice (some ⟨gk, 0, none⟩) 64 64) :: (.int .i64 0) :: c7 :: c8 :: c9 :: c10 :: c11 :: c12 :: c13 :: c14 :: c15 :: c16 :: c17 :: c18 :: c19 :: c20 :: c21 :: c22 :: c23 :: c24 :: c25 :: c26 :: c27 :: c28 :: c29 :: c30 :: c31 :: c32 :: c33 :: c34 :: c35 :: c36 :: c37 :: c38 :: c39 :: c40 :: c41 :: c42 :: c43 :: c44 :: c45 :: c46 :: c47 :: c48 :: c49 :: c50 :: c51 :: c52 :: c53 :: c54 :: c55 :: c56 :: c57 :: c58 :: c59 :: c60 :: c61 :: c62 :: c63 :: c64 :: c65 :: c66 :: c67 :: c68 :: c69 :: c70 :: c71 :: c72 :: c73 :: c74 :: c75 :: c76 :: c77 :: c78 :: c79 :: c80 :: c81 :: c82 :: c83 :: c84 :: c85 :: c86 :: c87 :: c88 :: c89 :: c90 :: c91 :: c92 :: c93 :: c94 :: c95 :: c96 :: c97 :: c98 :: c99 :: c100 :: c101 :: c102 :: c103 :: c104 :: c105 :: c106 :: c107 :: c108 :: c109 :: c110 :: c111 :: c112 :: c113 :: c114 :: c115 :: c116 :: c117 :: c118 :: c119 :: c120 :: c121 :: c122 :: c123 :: c124 :: c125 :: c126 :: c127 :: c128 :: c129 :: c130 :: c131 :: c132 :: c133 :: t134 :: c135 :: c136 :: c137 :: c138 :: c139 :: c140 :: c141 :: c142 :: c143 :: c144 :: c145 :: c146 :: c147 :: c148 :: c149 :: c150 :: c151 :: c152 :: c153 :: c154 :: c155 :: c156 :: c157 :: c158 :: c159 :: c160 :: c161 :: c162 :: c163 :: c164 :: c165 :: c166 :: c167 :: c168 :: c169 :: c170 :: c171 :: c172 :: c173 :: c174 :: c175 :: c176 :: c177 :: c178 :: c179 :: c180 :: c181 :: c182 :: c183 :: c184 :: c185 :: c186 :: c187 :: c188 :: c189 :: c190 :: c191 :: c192 :: c193 :: c194 :: c195 :: c196 :: c197 :: c198 :: c199 :: c200 :: c201 :: c202 :: c203 :: c204 :: c205 :: c206 :: c207 :: c208 :: c209 :: c210 :: c211 :: c212 :: c213 :: c214 :: c215 :: c216 :: c217 :: c218 :: c219 :: c220 :: c221 :: c222 :: c223 :: c224 :: c225 :: c226 :: c227 :: c228 :: c229 :: c230 :: c231 :: c232 :: c233 :: c234 :: c235 :: c236 :: c237 :: c238 :: c239 :: c240 :: c241 :: c242 :: c243 :: c244 :: c245 :: c246 :: c247 :: c248 :: c249 :: c250 :: c251 :: c252 :: c253 :: c254 :: c255 :: c256 :: c257 :: c258 :: c259 :: c260 :: c261 :: c262 :: c263 :: c264 :: c265 :: c266 :: c267 :: c268 :: c269 :: c270 :: c271 :: c272 :: c273 :: c274 :: c275 :: c276 :: c277 :: c278 :: c279 :: c280 :: c281 :: c282 :: c283 :: c284 :: []).toArray, []⟩ wq := by
  conv => arg 2; whnf
  have hgp := HPB.out.lt
  go_loopw [4, 6, 134] (fun vh va vt wr => ∃ j : Nat, j ≤ nb ∧ isTok vt = false ∧ va = .int .i64 (64 * (j : Int)) ∧ (∃ g, vh = .slice (some ⟨g, 0, none⟩) 8 8 ∧ Blk wr g 78 (vw (F j))) ∧ Below wq.heap.size wq wr) (fun _ va _ _ => 64 * nb - (intOf va).toNat)
  case atStart => exact ⟨0, by omega, h134, rfl, ⟨gh, rfl, HHB.out⟩, Below.refl _ _⟩
  case round =>
    rename World => wr
    obtain ⟨j, hj, ht, rfl, ⟨g, rfl, hbl⟩, hb⟩ := hrel
    have HT := Lib.hid ht
    have HHG := Lib.hid hbl
    have HBQ := Lib.hid hb
    clear hbl hb HHB ht h134
    by_cases hlt : j < nb
    · obtain ⟨CH, hCH⟩ : ∃ CH, CH = (P.drop (64 * j)).take 64 := ⟨_, rfl⟩
      have hCl : CH.length = 64 := by rw [hCH, List.length_take, List.length_drop, HPN.out]; omega
      have HCL := Lib.hid (show ∀ c ∈ CH, c < 256 from fun c hc => HPD.out c (by rw [hCH] at hc; exact List.mem_of_mem_drop (List.mem_of_mem_take hc)))
      have HFJ := Lib.hid (show F (j + 1) = blk CH (F j) by rw [hCH]; exact HFS.out j)
      have HCP := Lib.hid (show ∀ i, i < 64 → P.getD (64 * j + i) 0 = CH.getD i 0 from fun i hi => by
        rw [hCH, List.getD_eq_getElem?_getD, List.getD_eq_getElem?_getD, List.getElem?_take_of_lt hi, List.getElem?_drop])
      have HPW := Lib.hid (HPB.out.below HBQ.out HPB.out.lt)
      have HFL := Lib.hid (HF8.out j)
      have HFB := Lib.hid (HFT.out j)
      clear hCH
      go_wp2_with fail
      refine loop4 _ wr gp nb kp j P CH rest _ _ _ _ _ _ _ _ _ _ _ _ _ _ _ _ _ _ _ _ _ _ _ _ _ _ _ _ _ _ _ _ _ _ _ _ _ _ _ _ _ _ _ _ _ _ _ _ _ _ _ _ _ _ _ _ _ _ _ _ _ _ _ _ _ _ _ _ _ _ _ _ _ _ _ _ _ _ _ _ _ _ _ _ _ _ _ _ _ _ _ _ _ _ _ _ _ _ _ _ _ _ _ _ _ _ _ _ _ _ _ _ _ _ _ _ _ _ _ _ _ _ _ _ _ _ _ _ _ _ _ _ _ _ _ _ _ _ _ _ _ _ _ _ _ _ _ _ _ _ _ _ _ _ _ _ _ _ _ _ _ _ _ _ _ _ _ _ _ _ _ _ _ _ _ _ _ _ _ _ _ _ _ _ _ _ _ _ _ _ _ _ _ _ _ _ _ _ _ _ _ _ _ _ _ _ _ _ _ _ _ _ _ _ _ _ _ _ _ _ _ _ _ _ _ _ _ _ _ _ _ _ _ _ _ _ _ _ _ _ _ _ _ _ _ _ _ _ _ _ _ _ _ _ _ _ _ _ _ _ _ _ _ _ _ _ _ _ _ _ _ _ _ _ _ _ _ _ _ _ _ hlt hnbl hkp hkp2 hCl HCL HCP HPN HPW ?_
      intro x8 x54 x55 x56 x57 x58 x59 x60 x61 x62 x63 x64 x65 x66 x67 x68 x69 x70 x71 x72 x73 v4 ws4 ho4 hb4
      have HO4 := Lib.hid ho4
      have HB4 := Lib.hid hb4
      clear ho4 hb4
      go_wp2_with fail
      refine loop6 _ ws4 wr.heap.size CH v4 _ _ _ _ _ _ _ _ _ _ _ _ _ _ _ _ _ _ _ _ _ _ _ _ _ _ _ _ _ _ _ _ _ _ _ _ _ _ _ _ _ _ _ _ _ _ _ _ _ _ _ _ _ _ _ _ _ _ _ _ _ _ _ _ _ _ _ _ _ _ _ _ _ _ _ _ _ _ _ _ _ _ _ _ _ _ _ _ _ _ _ _ _ _ _ _ _ _ _ _ _ _ _ _ _ _ _ _ _ _ _ _ _ _ _ _ _ _ _ _ _ _ _ _ _ _ _ _ _ _ _ _ _ _ _ _ _ _ _ _ _ _ _ _ _ _ _ _ _ _ _ _ _ _ _ _ _ _ _ _ _ _ _ _ _ _ _ _ _ _ _ _ _ _ _ _ _ _ _ _ _ _ _ _ _ _ _ _ _ _ _ _ _ _ _ _ _ _ _ _ _ _ _ _ _ _ _ _ _ _ _ _ _ _ _ _ _ _ _ _ _ _ _ _ _ _ _ _ _ _ _ _ _ _ _ _ _ _ _ _ _ _ _ _ _ _ _ _ _ _ _ _ _ _ _ _ _ _ _ _ _ _ _ _ _ _ _ _ _ _ _ _ _ _ _ _ _ _ _ _ _ _ _ HCL HO4 HB4.out.size HT.out ?_
      intro y9 y10 y11 y74 y75 y76 y77 y78 y79 y80 y81 y82 y83 y84 y85 y86 y87 y88 y89 y90 y91 y92 y93 y94 y95 y96 y97 y98 y99 y100 y101 y102 y103 y104 y105 y106 y107 y108 y109 y110 y111 y112 y113 y114 y115 y116 y117 y118 y119 y120 y121 y122 y123 y124 y125 y126 y127 y128 y129 y130 y131 y132 y133 y135 v6 t6 ws6 ht6 ho6 hb6
      have HT6 := Lib.hid ht6
      have HB6 := Lib.hid (HB4.out.trans hb6)
      obtain ⟨A8, k8, rfl, hk8, _, hr8⟩ := ho6.rd
      obtain ⟨ad8, rfl, _, hc8⟩ := hr8.wordAt (by rw [sch_len]; omega)
      have HC8 := Lib.hid (show ∀ i, i < 64 → ws6.cell? (ad8.add i) = some (.int .u32 ((sch CH 64).getD i 0 : Nat)) from fun i hi => hc8 i (by rw [sch_len]; exact hi))
      have HSB := Lib.hid (show ∀ i, (sch CH 64).getD i 0 < 4294967296 from sch_at_lt HCL.out 64)
      rw [sch_len] at hk8 ⊢
      clear ht6 ho6 hb6 hr8 hc8 HO4 HT
      have HHG6 := Lib.hid (HHG.out.below HB6.out HHG.out.lt)
      have HKB6 := Lib.hid ((HKB.out.below HBQ.out HKB.out.lt).below HB6.out (Nat.lt_of_lt_of_le HKB.out.lt HBQ.out.size))
      obtain ⟨R, hR⟩ : ∃ R, R = rds CH (F j) := ⟨_, rfl⟩
      have HR0 := Lib.hid (show R 0 = F j by rw [hR]; rfl)
      obtain ⟨L, hL⟩ : ∃ L, L = R 64 := ⟨_, rfl⟩
      obtain ⟨S, hS⟩ : ∃ S, S = sch CH 64 := ⟨_, rfl⟩
      have HRS := Lib.hid (show ∀ k, R (k + 1) = rnd (kc.getD k 0) (S.getD k 0) (R k) by rw [hR, hS]; exact fun k => rds_next _ _ k)
      have HRL := Lib.hid (show ∀ k, (R k).length = 8 by rw [hR]; exact fun k => rds_len HFL.out k)
      have HRT := Lib.hid (show ∀ k, ∀ c ∈ R k, c < 4294967296 by rw [hR]; exact fun k => rds_lt CH HFB.out k)
      have HR6 := Lib.hid hL.symm
      have HBK := Lib.hid (show F (j + 1) = blk8 (F j) L by rw [hL, hR, HFJ.out]; exact blk_eq _ _)
      rw [← hS] at HC8 HSB
      clear hR hL hS
      generalize F j = H at *
      have e0 : ws6.cell? ⟨g, 0, none⟩ = some (.int .u32 (H.getD 0 0 : Nat)) := (HHG6.out.cell 0).trans (vw_at' H 0 (by rw [HFL.out]; omega))
      have e1 : ws6.cell? ⟨g, 1, none⟩ = some (.int .u32 (H.getD 1 0 : Nat)) := (HHG6.out.cell 1).trans (vw_at' H 1 (by rw [HFL.out]; omega))
      have e2 : ws6.cell? ⟨g, 2, none⟩ = some (.int .u32 (H.getD 2 0 : Nat)) := (HHG6.out.cell 2).trans (vw_at' H 2 (by rw [HFL.out]; omega))
      have e3 : ws6.cell? ⟨g, 3, none⟩ = some (.int .u32 (H.getD 3 0 : Nat)) := (HHG6.out.cell 3).trans (vw_at' H 3 (by rw [HFL.out]; omega))
      have e4 : ws6.cell? ⟨g, 4, none⟩ = some (.int .u32 (H.getD 4 0 : Nat)) := (HHG6.out.cell 4).trans (vw_at' H 4 (by rw [HFL.out]; omega))
      have e5 : ws6.cell? ⟨g, 5, none⟩ = some (.int .u32 (H.getD 5 0 : Nat)) := (HHG6.out.cell 5).trans (vw_at' H 5 (by rw [HFL.out]; omega))
      have e6 : ws6.cell? ⟨g, 6, none⟩ = some (.int .u32 (H.getD 6 0 : Nat)) := (HHG6.out.cell 6).trans (vw_at' H 6 (by rw [HFL.out]; omega))
      have e7 : ws6.cell? ⟨g, 7, none⟩ = some (.int .u32 (H.getD 7 0 : Nat)) := (HHG6.out.cell 7).trans (vw_at' H 7 (by rw [HFL.out]; omega))
      go_wp2_with fail
      refine wp_region_quiet_lit (by kernel_rfl) (by kernel_rfl) ?_
      repeat (go_big_quiet_step (fail))
      refine wpQuiet_nil ?_
      rintro _ ⟨n6, rfl⟩
      go_wp2_with fail
      refine loop8 _ (ws6.drewN n6) gk k8 ad8 S H L R _ _ _ _ _ _ _ _ _ _ _ _ _ _ _ _ _ _ _ _ _ _ _ _ _ _ _ _ _ _ _ _ _ _ _ _ _ _ _ _ _ _ _ _ _ _ _ _ _ _ _ _ _ _ _ _ _ _ _ _ _ _ _ _ _ _ _ _ _ _ _ _ _ _ _ _ _ _ _ _ _ _ _ _ _ _ _ _ _ _ _ _ _ _ _ _ _ _ _ _ _ _ _ _ _ _ _ _ _ _ _ _ _ _ _ _ _ _ _ _ _ _ _ _ _ _ _ _ _ _ _ _ _ _ _ _ _ _ _ _ _ _ _ _ _ _ _ _ _ _ _ _ _ _ _ _ _ _ _ _ _ _ _ _ _ _ _ _ _ _ _ _ _ _ _ _ _ _ _ _ _ _ _ _ _ _ _ _ _ _ _ _ _ _ _ _ _ _ _ _ _ _ _ _ _ _ _ _ _ _ _ _ _ _ _ _ _ _ _ _ _ _ _ _ _ _ _ _ _ _ _ _ _ _ _ _ _ _ _ _ _ _ _ _ _ _ _ _ _ _ _ _ _ _ _ _ _ _ _ _ _ _ _ _ _ _ _ _ _ _ _ _ _ _ (show Hid (Blk (ws6.drewN n6) gk 78 (vw kc)) from HKB6) HC8 hk8 HSB HRL HRT HR0 HR6 HRS ?_
      intro z20 z21 z22 z23 z160 z161 z162 z163 z164 z165 z166 z167 z168 z169 z170 z171 z172 z173 z174 z175 z176 z177 z178 z179 z180 z181 z182 z183 z184 z185 z186 z187 z188 z189 z190 z191 z192 z193 z194 z195 z196 z197 z198 z199 z200 z201 z202 z203 z204 z205 z206 z207 z208 z209 z210 z211 z212 z213 z214 z215 z216 z217 z218 z219 z220 z221 z222 z223 z224 z225 n8
      go_wp2_with fail
      obtain ⟨Y, hY⟩ : ∃ Y, Y = (ws6.drewN n6).drewN n8 := ⟨_, rfl⟩
      replace e0 : Y.cell? ⟨g, 0, none⟩ = some (.int .u32 (H.getD 0 0 : Nat)) := by rw [hY]; exact e0
      replace e1 : Y.cell? ⟨g, 1, none⟩ = some (.int .u32 (H.getD 1 0 : Nat)) := by rw [hY]; exact e1
      replace e2 : Y.cell? ⟨g, 2, none⟩ = some (.int .u32 (H.getD 2 0 : Nat)) := by rw [hY]; exact e2
      replace e3 : Y.cell? ⟨g, 3, none⟩ = some (.int .u32 (H.getD 3 0 : Nat)) := by rw [hY]; exact e3
      replace e4 : Y.cell? ⟨g, 4, none⟩ = some (.int .u32 (H.getD 4 0 : Nat)) := by rw [hY]; exact e4
      replace e5 : Y.cell? ⟨g, 5, none⟩ = some (.int .u32 (H.getD 5 0 : Nat)) := by rw [hY]; exact e5
      replace e6 : Y.cell? ⟨g, 6, none⟩ = some (.int .u32 (H.getD 6 0 : Nat)) := by rw [hY]; exact e6
      replace e7 : Y.cell? ⟨g, 7, none⟩ = some (.int .u32 (H.getD 7 0 : Nat)) := by rw [hY]; exact e7
      have HBY := Lib.hid (show Below wr.heap.size wr Y by rw [hY]; exact belowDrewN n8 (belowDrewN n6 HB6.out))
      rw [← hY]
      clear hY
      have HBK2 : Hid (F (j + 1) = [ad (H.getD 0 0) (L.getD 0 0), ad (H.getD 1 0) (L.getD 1 0), ad (H.getD 2 0) (L.getD 2 0), ad (H.getD 3 0) (L.getD 3 0), ad (H.getD 4 0) (L.getD 4 0), ad (H.getD 5 0) (L.getD 5 0), ad (H.getD 6 0) (L.getD 6 0), ad (H.getD 7 0) (L.getD 7 0)]) := HBK
      clear HBK HC8 HSB HRL HRT HR0 HR6 HRS HKB6 HHG6 HFL HFB HFJ HCP HPW
      have a0 := wrap32_add (H.getD 0 0) (L.getD 0 0)
      have a1 := wrap32_add (H.getD 1 0) (L.getD 1 0)
      have a2 := wrap32_add (H.getD 2 0) (L.getD 2 0)
      have a3 := wrap32_add (H.getD 3 0) (L.getD 3 0)
      have a4 := wrap32_add (H.getD 4 0) (L.getD 4 0)
      have a5 := wrap32_add (H.getD 5 0) (L.getD 5 0)
      have a6 := wrap32_add (H.getD 6 0) (L.getD 6 0)
      have a7 := wrap32_add (H.getD 7 0) (L.getD 7 0)
      generalize ad (H.getD 0 0) (L.getD 0 0) = q0 at *
      generalize H.getD 0 0 = h0 at *
      generalize L.getD 0 0 = l0 at *
      generalize ad (H.getD 1 0) (L.getD 1 0) = q1 at *
      generalize H.getD 1 0 = h1 at *
      generalize L.getD 1 0 = l1 at *
      generalize ad (H.getD 2 0) (L.getD 2 0) = q2 at *
      generalize H.getD 2 0 = h2 at *
      generalize L.getD 2 0 = l2 at *
      generalize ad (H.getD 3 0) (L.getD 3 0) = q3 at *
      generalize H.getD 3 0 = h3 at *
      generalize L.getD 3 0 = l3 at *
      generalize ad (H.getD 4 0) (L.getD 4 0) = q4 at *
      generalize H.getD 4 0 = h4 at *
      generalize L.getD 4 0 = l4 at *
      generalize ad (H.getD 5 0) (L.getD 5 0) = q5 at *
      generalize H.getD 5 0 = h5 at *
      generalize L.getD 5 0 = l5 at *
      generalize ad (H.getD 6 0) (L.getD 6 0) = q6 at *
      generalize H.getD 6 0 = h6 at *
      generalize L.getD 6 0 = l6 at *
      generalize ad (H.getD 7 0) (L.getD 7 0) = q7 at *
      generalize H.getD 7 0 = h7 at *
      generalize L.getD 7 0 = l7 at *
      refine wp_region_still_tail 40 (by kernel_rfl) (by kernel_rfl) ?_
      simp only [List.take_succ_cons, List.take_zero, List.drop_succ_cons, List.drop_zero]
      repeat still_step
      try refine wpStill_nil ?_
      change wpList _ _ _ _ _ Y.drew
      go_wp2_with fail
      have hbn : Blk ((Y.alloc (Obj.cells (vw [q0, q1, q2, q3, q4, q5, q6, q7]) 78)).drew) Y.heap.size 78 (vw [q0, q1, q2, q3, q4, q5, q6, q7]) := Blk.new Y _ _
      have hbe : Below wr.heap.size wr ((Y.alloc (Obj.cells (vw [q0, q1, q2, q3, q4, q5, q6, q7]) 78)).drew) := (HBY.out.alloc HBY.out.size _).drew
      refine ⟨⟨j + 1, by omega, HT6.out, by congr 1 <;> omega, ⟨Y.heap.size, rfl, ?_⟩, HBQ.out.trans (hbe.mono HBQ.out.size)⟩, ?_⟩
      · rw [HBK2.out]
        exact hbn
      · simp only [intOf]; omega
    · obtain rfl : j = nb := by omega
      go_wp2_with fail
      exact hexit _ _ _ _ _ _ _ _ _ _ _ _ _ _ _ _ _ _ _ _ _ _ _ _ _ _ _ _ _ _ _ _ _ _ _ _ _ _ _ _ _ _ _ _ _ _ _ _ _ _ _ _ _ _ _ _ _ _ _ _ _ _ _ _ _ _ _ _ _ _ _ _ _ _ _ _ _ _ _ _ _ _ _ _ _ _ _ _ _ _ _ _ _ _ _ _ _ _ _ _ _ _ _ _ _ _ _ _ _ _ _ _ _ _ _ _ _ _ _ _ _ _ _ _ _ _ _ _ _ _ _ _ _ _ _ _ _ _ _ _ _ _ _ _ _ _ _ _ _ _ _ _ _ _ _ _ _ _ _ _ _ _ _ _ _ _ _ _ _ _ _ _ _ _ _ _ _ _ _ _ _ _ _ _ _ _ _ _ _ _ _ _ _ _ _ _ _ _ _ _ _ _ _ _ _ _ _ _ _ _ _ _ _ _ _ _ _ _ _ _ _ _ _ _ _ _ _ _ _ _ _ _ _ _ _ _ _ _ _ HHG.out HBQ.out
end Go.Proofs.YtdbfikcpaionbaaDoor
/- Contract: the document's fingerprint: its bytes. -/
namespace Go.Proofs.YtdbfikcpaionbaaDoor
open Go.RowKit
set_option linter.unusedVariables false
set_option linter.unusedSimpArgs false
structure OutW (Z w : World) (B O : Nat) (H l : List Nat) (k : Nat) : Prop where
  bel : Below Z.heap.size Z w
  hB : Blk w B 78 (vw H)
  hO : Blk w O 28 (vb (outZ l k))
theorem OutW.next {Z w w' : World} {B O : Nat} {H l : List Nat} {k : Nat} (h : OutW Z w B O H l k) (hb : Below w.heap.size w w') : OutW Z w' B O H l k := ⟨h.bel.trans (hb.mono h.bel.size), h.hB.below hb h.hB.lt, h.hO.below hb h.hO.lt⟩
theorem high4_at (y i : Nat) (h : i < 4) : (high y 4).getD i 0 = y / 2 ^ (24 - 8 * i) % 256 := by
  have := flat4_at [y] i (by simp; omega)
  rw [show i / 4 = 0 by omega, show i % 4 = i by omega] at this
  simpa using this
set_option maxRecDepth 1000000 in
set_option maxHeartbeats 40000000 in
theorem loop10 (Q : Exit → Act → World → Prop) (wq : World) (Z : World) (g O : Nat) (H M : List Nat) (c0 c1 c2 c3 c5 c6 c7 c8 c9 c10 c11 c12 c13 c14 c15 c16 c17 c18 c19 c20 c21 c22 c23 c26 c27 c28 c29 c30 c31 c32 c33 c34 c35 c36 c37 c38 c39 c40 c41 c42 c43 c44 c45 c46 c47 c48 c49 c50 c51 c52 c53 c54 c55 c56 c57 c58 c59 c60 c61 c62 c63 c64 c65 c66 c67 c68 c69 c70 c71 c72 c73 c74 c75 c76 c77 c78 c79 c80 c81 c82 c83 c84 c85 c86 c87 c88 c89 c90 c91 c92 c93 c94 c95 c96 c97 c98 c99 c100 c101 c102 c103 c104 c105 c106 c107 c108 c109 c110 c111 c112 c113 c114 c115 c116 c117 c118 c119 c120 c121 c122 c123 c124 c125 c126 c127 c128 c129 c130 c131 c132 c133 c134 c135 c136 c137 c138 c139 c140 c141 c142 c143 c144 c145 c146 c147 c148 c149 c150 c151 c152 c153 c154 c155 c156 c157 c158 c159 c160 c161 c162 c163 c164 c165 c166 c167 c168 c169 c170 c171 c172 c173 c174 c175 c176 c177 c178 c179 c180 c181 c182 c183 c184 c185 c186 c187 c188 c189 c190 c191 c192 c193 c194 c195 c196 c197 c198 c199 c200 c201 c202 c203 c204 c205 c206 c207 c208 c209 c210 c211 c212 c213 c214 c215 c216 c217 c218 c219 c220 c221 c222 c223 c224 c225 c226 c227 c228 c229 c230 c231 c232 c233 c234 c235 c236 c237 c238 c239 c240 c241 c242 c243 c244 c245 c246 c247 c248 c249 c250 c251 c252 c253 c254 c255 c256 c257 c258 c259 c260 c261 c262 c263 c264 c265 c266 c267 c268 c269 c270 c271 c272 c273 c274 c275 c276 c277 c278 c279 c280 c281 c282 c283 c284 : Value)
    (hgO : g ≠ O) (hzO : Z.heap.size ≤ O) (HO : Hid (OutW Z wq g O H M 0)) (HFL : Hid (H.length = 8)) (HFT : Hid (∀ c ∈ H, c < 4294967296)) (HM : Hid (M = H.flatMap fun w => high w 4)) (HML : Hid (M.length = 32))
    (hexit : ∀ (u25 u267 u268 u269 u270 u271 u272 u273 u274 u275 u276 u277 u278 u279 u280 u281 u282 u283 : Value) (ws : World), OutW Z ws g O H M 32 → Q (.exit 10) ⟨(c0 :: c1 :: c2 :: c3 :: (.slice (some ⟨g, 0, none⟩) 8 8) :: c5 :: c6 :: c7 :: c8 :: c9 :: c10 :: c11 :: c12 :: c13 :: c14 :: c15 :: c16 :: c17 :: c18 :: c19 :: c20 :: c21 :: c22 :: c23 :: (.pointer (some ⟨O, 0, none⟩)) :: u25 :: c26 :: c27 :: c28 :: c29 :: c30 :: c31 :: c32 :: c33 :: c34 :: c35 :: c36 :: c37 :: c38 :: c39 :: c40 :: c41 :: c42 :: c43 :: c44 :: c45 :: c46 :: c47 :: c48 :: c49 :: c50 :: c51 :: c52 :: c53 :: c54 :: c55 :: c56 :: c57 :: c58 :: c59 :: c60 :: c61 :: c62 :: c63 :: c64 :: c65 :: c66 :: c67 :: c68 :: c69 :: c70 :: c71 :: c72 :: c73 :: c74 :: c75 :: c76 :: c77 :: c78 :: c79 :: c80 :: c81 :: c82 :: c83 :: c84 :: c85 :: c86 :: c87 :: c88 :: c89 :: c90 :: c91 :: c92 :: c93 :: c94 :: c95 :: c96 :: c97 :: c98 :: c99 :: c100 :: c101 :: c102 :: c103 :: c104 :: c105 :: c106 :: c107 :: c108 :: c109 :: c110 :: c111 :: c112 :: c113 :: c114 :: c115 :: c116 :: c117 :: c118 :: c119 :: c120 :: c121 :: c122 :: c123 :: c124 :: c125 :: c126 :: c127 :: c128 :: c129 :: c130 :: c131 :: c132 :: c133 :: c134 :: c135 :: c136 :: c137 :: c138 :: c139 :: c140 :: c141 :: c142 :: c143 :: c144 :: c145 :: c146 :: c147 :: c148 :: c149 :: c150 :: c151 :: c152 :: c153 :: c154 :: c155 :: c156 :: c157 :: c158 :: c159 :: c160 :: c161 :: c162 :: c163 :: c164 :: c165 :: c166 :: c167 :: c168 :: c169 :: c170 :: c171 :: c172 :: c173 :: c174 :: c175 :: c176 :: c177 :: c178 :: c179 :: c180 :: c181 :: c182 :: c183 :: c184 :: c185 :: c186 :: c187 :: c188 :: c189 :: c190 :: c191 :: c192 :: c193 :: c194 :: c195 :: c196 :: c197 :: c198 :: c199 :: c200 :: c201 :: c202 :: c203 :: c204 :: c205 :: c206 :: c207 :: c208 :: c209 :: c210 :: c211 :: c212 :: c213 :: c214 :: c215 :: c216 :: c217 :: c218 :: c219 :: c220 :: c221 :: c222 :: c223 :: c224 :: c225 :: c226 :: c227 :: c228 :: c229 :: c230 :: c231 :: c232 :: c233 :: c234 :: c235 :: c236 :: c237 :: c238 :: c239 :: c240 :: c241 :: c242 :: c243 :: c244 :: c245 :: c246 :: c247 :: c248 :: c249 :: c250 :: c251 :: c252 :: c253 :: c254 :: c255 :: c256 :: c257 :: c258 :: c259 :: c260 :: c261 :: c262 :: c263 :: c264 :: c265 :: c266 :: u267 :: u268 :: u269 :: u270 :: u271 :: u272 :: u273 :: u274 :: u275 :: u276 :: u277 :: u278 :: u279 :: u280 :: u281 :: u282 :: u283 :: c284 :: []).toArray, []⟩ ws) :
    Code.wp Tryd.prog (lp 10) Q ⟨(c0 :: c1 :: c2 :: c3 :: (.slice (some ⟨g, 0, none⟩) 8 8) :: c5 :: c6 :: c7 :: c8 :: c9 :: c10 :: c11 :: c12 :: c13 :: c14 :: c15 :: c16 :: c17 :: c18 :: c19 :: c20 :: c21 :: c22 :: c23 :: (.pointer (some ⟨O, 0, none⟩)) :: (.int .i64 0) :: c26 :: c27 :: c28 :: c29 :: c30 :: c31 :: c32 :: c33 :: c34 :: c35 :: c36 :: c37 :: c38 :: c39 :: c40 :: c41 :: c42 :: c43 :: c44 :: c45 :: c46 :: c47 :: c48 :: c49 :: c50 :: c51 :: c52 :: c53 :: c54 :: c55 :: c56 :: c57 :: c58 :: c59 :: c60 :: c61 :: c62 :: c63 :: c64 :: c65 :: c66 :: c67 :: c68 :: c69 :: c70 :: c71 :: c72 :: c73 :: c74 :: c75 :: c76 :: c77 :: c78 :: c79 :: c80 :: c81 :: c82 :: c83 :: c84 :: c85 :: c86 :: c87 :: c88 :: c89 :: c90 :: c91 :: c92 :: c93 :: c94 :: c95 :: c96 :: c97 :: c98 :: c99 :: c100 :: c101 :: c102 :: c103 :: c104 :: c105 :: c106 :: c107 :: c108 :: c109 :: c110 :: c111 :: c112 :: c113 :: c114 :: c115 :: c116 :: c117 :: c118 :: c119 :: c120 :: c121 :: c122 :: c123 :: c124 :: c125 :: c126 :: c127 :: c128 :: c129 :: c130 :: c131 :: c132 :: c133 :: c134 :: c135 :: c136 :: c137 :: c138 :: c139 :: c140 :: c141 :: c142 :: c143 :: c144 :: c145 :: c146 :: c147 :: c148 :: c149 :: c150 :: c151 :: c152 :: c153 :: c154 :: c155 :: c156 :: c157 :: c158 :: c159 :: c160 :: c161 :: c162 :: c163 :: c164 :: c165 :: c166 :: c167 :: c168 :: c169 :: c170 :: c171 :: c172 :: c173 :: c174 :: c175 :: c176 :: c177 :: c178 :: c179 :: c180 :: c181 :: c182 :: c183 :: c184 :: c185 :: c186 :: c187 :: c188 :: c189 :: c190 :: c191 :: c192 :: c193 :: c194 :: c195 :: c196 :: c197 :: c198 :: c199 :: c200 :: c201 :: c202 :: c203 :: c204 :: c205 :: c206 :: c207 :: c208 :: c209 :: c210 :: c211 :: c212 :: c213 :: c214 :: c215 :: c216 :: c217 :: c218 :: c219 :: c220 :: c221 :: c222 :: c223 :: c224 :: c225 :: c226 :: c227 :: c228 :: c229 :: c230 :: c231 :: c232 :: c233 :: c234 :: c235 :: c236 :: c237 :: c238 :: c239 :: c240 :: c241 :: c242 :: c243 :: c244 :: c245 :: c246 :: c247 :: c248 :: c249 :: c250 :: c251 :: c252 :: c253 :: c254 :: c255 :: c256 :: c257 :: c258 :: c259 :: c260 :: c261 :: c262 :: c263 :: c264 :: c265 :: c266 :: c267 :: c268 :: c269 :: c270 :: c271 :: c272 :: c273 :: c274 :: c275 :: c276 :: c277 :: c278 :: c279 :: c280 :: c281 :: c282 :: c283 :: c284 :: []).toArray, []⟩ wq := by
  conv => arg 2; whnf
  go_loopw [25] (fun i wr => ∃ k : Nat, k ≤ 32 ∧ i = .int .i64 (k : Int) ∧ OutW Z wr g O H M k) (fun i _ => 32 - (intOf i).toNat)
  case atStart => exact ⟨0, by omega, rfl, HO.out⟩
  case round =>
    rename World => wo
    obtain ⟨k, hk, rfl, hs⟩ := hrel
    have HK := Lib.hid hs
    clear hs HO
    by_cases hlt : k < 32
    · have ec := HK.out.hB.cell (k / 4)
      rw [vw_at' _ _ (by rw [HFL.out]; omega)] at ec
      have hl := HFT.out _ (getD_mem H (k / 4) (by rw [HFL.out]; omega))
      have hf4 := flat4_at H k (by rw [HFL.out]; omega)
      rw [← HM.out] at hf4
      have HF4 := Lib.hid hf4
      clear hf4
      have d4 : (k : Int).tdiv 4 = ((k / 4 : Nat) : Int) := by rw [Int.tdiv_eq_ediv_of_nonneg (by omega)]; omega
      have m4 : (k : Int).tmod 4 = ((k % 4 : Nat) : Int) := by rw [Int.tmod_eq_emod_of_nonneg (by omega)]; omega
      have b4 : ((k / 4 : Nat) : Int) < 8 := by omega
      have b5 : ((k % 4 : Nat) : Int) < 4 := by omega
      generalize hy : H.getD (k / 4) 0 = y at *
      have ey : IntKind.u64.wrap (y : Int) = (y : Int) := by simp [IntKind.wrap, IntKind.signed, IntKind.bits]; omega
      have HHI := Lib.hid (fun W => rhigh_c y 4 W (by omega) (.inl rfl))
      go_wp2_with (go_at_call 46; (refine (HHI.out _).mono ?_); rintro e w5 ⟨v5, rfl, ho, hb⟩; obtain ⟨A5, k5, rfl, _, _, hr5⟩ := ho.rd; rw [high_len]; obtain ⟨ad5, rfl, _, hc5⟩ := hr5 (by rw [show byt (high y 4) = List.map (fun (n : Nat) => Value.int .u8 (n : Int)) (high y 4) from rfl]; intro h0; have := congrArg List.length h0; rw [List.length_map, high_len] at this; cases this); have hcc := hc5 (k % 4) _ (byt_at (by rw [high_len]; omega)); rw [high4_at y (k % 4) (by omega), ← HF4.out] at hcc; have HO5 := Lib.hid (show OutW Z w5 g O H M k from HK.out.next hb); have ef := HO5.out.hO.free k; have eo := HO5.out.hO.cell k; rw [vb_at _ k (by rw [outZ_len _ _ (by rw [HML.out]; omega), HML.out]; exact hlt)] at eo; clear ho hb hr5 hc5)
      refine ⟨⟨k + 1, by omega, by congr 1, ?_⟩, ?_⟩
      · rw [← List.getD_eq_getElem?_getD]
        refine ⟨HO5.out.bel.setCell hzO _, HO5.out.hB.far hgO _, ?_⟩
        rw [← outZ_set _ _ (by rw [HML.out]; exact hlt), ← vb_set]
        exact HO5.out.hO.set_ _ _
      · simp only [intOf]; omega
    · obtain rfl : k = 32 := by omega
      go_wp2_with fail
      exact HK.out
end Go.Proofs.YtdbfikcpaionbaaDoor
/- Contract: the document's fingerprint. -/
namespace Go.Proofs.YtdbfikcpaionbaaDoor
open Go.RowKit
set_option linter.unusedVariables false
set_option linter.unusedSimpArgs false
theorem fld_next (m : List Nat) (n : Nat) : fld m (n + 1) = blk ((m.drop (64 * n)).take 64) (fld m n) := rfl
set_option maxRecDepth 100000 in
set_option maxHeartbeats 40000000 in
theorem rsum_c (B : Nat) (A : Option Addr) (ca : Nat) (m : List Nat) (w : World) (hr : Rd w B A (byt m)) (hB : B ≤ w.heap.size) (hml : ∀ c ∈ m, c < 256) (hlen : m.length ≤ 10000) :
    Calls Tryd.prog 37 #[.slice A m.length ca] w fun e w' => e = .returned (.agg (vb (sha m))) ∧ Below w.heap.size w w' := by
  obtain ⟨i0, hi, hz0, hz1, hz2⟩ := info_parts byteInfo
  obtain ⟨i4, hi4, hy0, hy1, hy2⟩ := info_parts wordInfo
  have HR := Lib.hid hr
  have HML := Lib.hid hml
  have HLEN := Lib.hid hlen
  clear hr hml
  go_enter Tryd.func37, Tryd.ntmps37
  have zf := zero_sum
  have zs1 : zSum.size = 32 := by rfl
  have zs2 : ¬ zSum = #[] := by intro h; have := congrArg Array.size h; rw [zs1] at this; cases this
  go_upto_region 1 with fail
  obtain ⟨Z, hZ⟩ : ∃ Z, Z = w.alloc (Obj.cells zSum 28) := ⟨_, rfl⟩
  have hbz : Below w.heap.size w Z := by rw [hZ]; exact (Below.refl _ _).alloc (Nat.le_refl _) _
  have h2 : Blk Z w.heap.size 28 zSum := by rw [hZ]; exact Blk.new _ _ _
  rw [← hZ]
  clear hZ zf zs1 zs2
  have HZ := Lib.hid hbz
  have H2 := Lib.hid h2
  have HRZ := Lib.hid ((HR.out.below (hbz.mono hB)).more (Nat.le_trans hB hbz.size))
  clear hbz h2
  go_wp2_with (first
    | (at_builtin; refine wpList_app _ rfl (.tmp 26) (.tmp 27) _ rfl Z.heap.size 5 i0 (.int .u8 0) 1 1 Tryd.underlying24 hi hz0 hz1 hz2 rfl (by decide) _ 0 [] rfl (by exact OwnB.new _ _ [] (Nat.le_refl _) (by simp [maxLen])) Z.heap.size A m.length ca (byt m) rfl (by simp [byt_len]) (by exact HRZ.out.ext ((Below.refl _ _).alloc (Nat.le_refl _) _)) (byt_one m) (by omega) (by omega) (by simp) ?_; intro v1 w1 hap; have ho1 : OwnB w1 Z.heap.size v1 m := (by have := hap.own; simpa [OwnB] using this); have hb1 : Below Z.heap.size Z w1 := ((Below.refl _ _).alloc (Nat.le_refl _) _).trans (hap.below (by exact OwnB.new _ _ [] (Nat.le_refl _) (by simp [maxLen])) (by simp)); obtain ⟨A1, k1, rfl, _, _, _⟩ := ho1.rd; have HO1 := Lib.hid ho1; have HB1 := Lib.hid hb1; clear hap ho1 hb1)
    | (at_builtin; refine wpList_app _ rfl (.tmp 29) (.tmp 30) _ rfl Z.heap.size 5 i0 (.int .u8 0) 1 1 Tryd.underlying24 hi hz0 hz1 hz2 rfl (by decide) _ _ _ rfl (HO1.out.alloc _) _ _ 1 1 [.int .u8 (128 : Nat)] rfl rfl (by exact rd_one _ _ _) (byt_one [128]) (by omega) (by omega) (by have := HB1.out.size; simp; omega) ?_; intro v3 w3 hap; have HO3 := Lib.hid (show OwnB w3 Z.heap.size v3 (padZ m 0) from by have h1 := OwnB.snoc hap; simpa [padZ] using h1); have HB3 := Lib.hid (show Below Z.heap.size Z w3 from (HB1.out.alloc HB1.out.size _).trans (hap.below (HO1.out.alloc _) (by have := HB1.out.size; simp; omega))); clear hap))
  go_loopw [3] (fun v wr => ∃ j : Nat, j ≤ zs m.length ∧ OwnB wr Z.heap.size v (padZ m j) ∧ Below Z.heap.size Z wr) (fun v _ => m.length + 1 + zs m.length - lenOf v)
  case atStart => exact ⟨0, Nat.zero_le _, HO3.out, HB3.out⟩
  case round =>
    rename World => wr
    obtain ⟨j, hj, ho, hb⟩ := hrel
    have hzl := zs_lt m.length
    obtain ⟨A4, k4, rfl, _, _, _⟩ := ho.rd
    have HO4 := Lib.hid ho
    have HB4 := Lib.hid hb
    have hL := padZ_len m j
    have HL4 := Lib.hid hL
    have h63 : ((padZ m j).length : Int).tmod 64 = ((padZ m j).length : Int) % 64 := Int.tmod_eq_emod_of_nonneg (by omega)
    clear ho hb HO1 HB1 HO3 HB3
    by_cases hlt : j < zs m.length
    · have hne := zs_at m.length j hlt
      rw [← hL] at hne
      have tne : ((((padZ m j).length : Int) % 64) != 56) = true := by rw [bne_iff_ne]; exact hne
      clear hne hL
      have HSU := Lib.hid (padZ_succ m j)
      have HPL := Lib.hid (padZ_len m (j + 1))
      go_wp2_with (at_builtin; refine wpList_app _ rfl (.tmp 36) (.tmp 37) _ rfl Z.heap.size 5 i0 (.int .u8 0) 1 1 Tryd.underlying24 hi hz0 hz1 hz2 rfl (by decide) _ _ _ rfl (HO4.out.alloc _) _ _ 1 1 [.int .u8 (0 : Nat)] rfl rfl (by exact rd_one _ _ _) (byt_one [0]) (by have := HL4.out; have := HLEN.out; omega) (by have := HL4.out; have := HLEN.out; omega) (by have := HB4.out.size; simp; omega) ?_; intro v5 w5 hap; have HO5 := Lib.hid (show OwnB w5 Z.heap.size v5 (padZ m (j + 1)) from by rw [HSU.out]; exact OwnB.snoc hap); have HB5 := Lib.hid (show Below Z.heap.size Z w5 from (HB4.out.alloc HB4.out.size _).trans (hap.below (HO4.out.alloc _) (by have := HB4.out.size; simp; omega))); clear hap)
      refine ⟨⟨j + 1, by omega, HO5.out, HB5.out⟩, ?_⟩
      have := HO5.out.lenOf; have := HPL.out; have := HO4.out.lenOf; have := HL4.out
      omega
    · obtain rfl : j = zs m.length := by omega
      have hend := zs_end m.length
      rw [← hL] at hend
      have tne : ((((padZ m (zs m.length)).length : Int) % 64) != 56) = false := by rw [bne_eq_false_iff_eq]; exact hend
      clear hend hL
      have esz : IntKind.u64.wrap ((m.length : Int) * 8) = ((8 * m.length : Nat) : Int) := by simp [IntKind.wrap, IntKind.signed, IntKind.bits]; omega
      have ec : IntKind.u64.wrap (m.length : Int) = (m.length : Int) := by simp [IntKind.wrap, IntKind.signed, IntKind.bits]; omega
      have HNL := Lib.hid (show (padZ m (zs m.length)).length ≤ 20000 by have := HL4.out; have := HLEN.out; omega)
      have HHI := Lib.hid (fun W => rhigh_c (8 * m.length) 8 W (by have := HLEN.out; omega) (.inr rfl))
      clear hlen
      go_wp2_with (first
        | (go_at_call 46; (refine (HHI.out _).mono ?_); rintro e w5 ⟨v5, rfl, ho, hb⟩; obtain ⟨A5, k5, rfl, _, _, hr5⟩ := ho.rd; have HR5 := Lib.hid hr5; have HB5 := Lib.hid hb; clear ho hb hr5)
        | (at_builtin; refine wpList_app _ rfl (.tmp 39) (.tmp 44) _ rfl Z.heap.size 5 i0 (.int .u8 0) 1 1 Tryd.underlying24 hi hz0 hz1 hz2 rfl (by decide) _ _ _ rfl (HO4.out.next HB5.out) w5.heap.size A5 (high (8 * m.length) 8).length k5 (byt (high (8 * m.length) 8)) rfl (by simp [byt_len]) HR5.out (byt_one _) (by have := HNL.out; rw [high_len]; omega) (by have := HNL.out; rw [high_len]; omega) (Nat.le_trans HB4.out.size HB5.out.size) ?_; intro v6 w6 hap; have HO6 := Lib.hid (show OwnB w6 Z.heap.size v6 (pad m) from OwnB.app hap); have HB6 := Lib.hid (show Below Z.heap.size Z w6 from (HB4.out.trans (HB5.out.mono HB4.out.size)).trans (hap.below (HO4.out.next HB5.out) (Nat.le_trans HB4.out.size HB5.out.size))); clear hap)
        | (go_at_call 47; (refine (rconst_c _).mono ?_); rintro e wk ⟨rfl, rfl⟩))
      have hpl := pad_len m
      have hp64 := pad_64 m
      obtain ⟨gp, kp, rest, rfl, hgp, hbp, hkp, hkp2, hrest⟩ := HO6.out.open_ (by intro h0; have := congrArg List.length h0; rw [List.length_nil] at this; omega)
      obtain ⟨nb, hnb⟩ : ∃ nb, nb = (pad m).length / 64 := ⟨_, rfl⟩
      have hpn : (pad m).length = 64 * nb := by omega
      have hnbl : nb ≤ 1000 := by have := zs_lt m.length; have := HLEN.out; omega
      obtain ⟨Y, hY'⟩ : ∃ Y, Y = (w6.alloc (Obj.cells #[Value.int .u32 1779033703, Value.int .u32 3144134277, Value.int .u32 1013904242, Value.int .u32 2773480762, Value.int .u32 1359893119, Value.int .u32 2600822924, Value.int .u32 528734635, Value.int .u32 1541459225] 78)).alloc (Obj.cells (vw kc) 78) := ⟨_, rfl⟩
      have hY : Y = (w6.alloc (Obj.cells (vw h0) 78)).alloc (Obj.cells (vw kc) 78) := hY'
      have h6y : Below w6.heap.size w6 Y := by rw [hY]; exact ((Below.refl _ _).alloc (Nat.le_refl _) _).alloc (by simp) _
      have hbh : Blk Y w6.heap.size 78 (vw h0) := by rw [hY]; exact (Blk.new _ _ _).alloc _
      have hbk : Blk Y (w6.heap.size + 1) 78 (vw kc) := by
        have h1 := Blk.new (w6.alloc (Obj.cells (vw h0) 78)) 78 (vw kc)
        rw [show (w6.alloc (Obj.cells (vw h0) 78)).heap.size = w6.heap.size + 1 by simp] at h1
        rw [hY]; exact h1
      have HPB := Lib.hid (hbp.below h6y hbp.lt)
      have HYB := Lib.hid (show Below w.heap.size w Y from ((HZ.out.trans (HB6.out.mono HZ.out.size))).trans (h6y.mono (Nat.le_trans HZ.out.size HB6.out.size)))
      have HYZ := Lib.hid (show Below Z.heap.size Z Y from HB6.out.trans (h6y.mono HB6.out.size))
      have HPN := Lib.hid hpn
      have HPD := Lib.hid (show ∀ c ∈ pad m, c < 256 from pad_lt HML.out)
      obtain ⟨gk, hgk⟩ : ∃ gk, gk = w6.heap.size + 1 := ⟨_, rfl⟩
      rw [← hgk] at hbk
      have HKB := Lib.hid hbk
      have HHB := Lib.hid hbh
      obtain ⟨gh, hgh⟩ : ∃ gh, gh = w6.heap.size := ⟨_, rfl⟩
      rw [hpn] at hkp ⊢
      rw [← hY', ← hgk]
      rw [← hgh] at HHB ⊢
      have hgpl : gp < Y.heap.size := HPB.out.lt
      have hgkl : gk < Y.heap.size := HKB.out.lt
      clear hY hY' hgk hgh hbk hbh h6y hpn hp64 hpl hnb hbp HO4 HB4 HR5 HB5 HO6 HB6 HR HRZ
      obtain ⟨F, hF⟩ : ∃ F, F = fld (pad m) := ⟨_, rfl⟩
      have HF0 := Lib.hid (show Blk Y gh 78 (vw (F 0)) by rw [hF]; exact HHB.out)
      have HF8 := Lib.hid (show ∀ j, (F j).length = 8 by rw [hF]; exact fld_len _)
      have HFT := Lib.hid (show ∀ j, ∀ c ∈ F j, c < 4294967296 by rw [hF]; exact fld_lt _)
      have HFS := Lib.hid (show ∀ j, F (j + 1) = blk (((pad m).drop (64 * j)).take 64) (F j) by rw [hF]; exact fun j => fld_next _ j)
      have HSH := Lib.hid (show sha m = (F nb).flatMap fun w => high w 4 by rw [hF]; unfold sha; rw [HPN.out, show 64 * nb / 64 = nb by omega])
      clear hF HHB
      refine loop2 _ Y gp nb kp gk gh (pad m) rest F _ _ _ _ _ _ _ _ _ _ _ _ _ _ _ _ _ _ _ _ _ _ _ _ _ _ _ _ _ _ _ _ _ _ _ _ _ _ _ _ _ _ _ _ _ _ _ _ _ _ _ _ _ _ _ _ _ _ _ _ _ _ _ _ _ _ _ _ _ _ _ _ _ _ _ _ _ _ _ _ _ _ _ _ _ _ _ _ _ _ _ _ _ _ _ _ _ _ _ _ _ _ _ _ _ _ _ _ _ _ _ _ _ _ _ _ _ _ _ _ _ _ _ _ _ _ _ _ _ _ _ _ _ _ _ _ _ _ _ _ _ _ _ _ _ _ _ _ _ _ _ _ _ _ _ _ _ _ _ _ _ _ _ _ _ _ _ _ _ _ _ _ _ _ _ _ _ _ _ _ _ _ _ _ _ _ _ _ _ _ _ _ _ _ _ _ _ _ _ _ _ _ _ _ _ _ _ _ _ _ _ _ _ _ _ _ _ _ _ _ _ _ _ _ _ _ _ _ _ _ _ _ _ _ _ _ _ _ _ _ _ _ _ _ _ _ _ _ _ _ _ _ _ _ _ _ _ _ _ _ _ _ _ _ _ _ _ _ _ _ _ _ _ _ _ _ _ _ _ _ _ hnbl hkp hkp2 HPD HPN HPB HKB HF0 HF8 HFT HFS rfl ?_
      intro x6 x7 x8 x9 x10 x11 x12 x13 x14 x15 x16 x17 x18 x19 x20 x21 x22 x23 x48 x49 x50 x51 x52 x53 x54 x55 x56 x57 x58 x59 x60 x61 x62 x63 x64 x65 x66 x67 x68 x69 x70 x71 x72 x73 x74 x75 x76 x77 x78 x79 x80 x81 x82 x83 x84 x85 x86 x87 x88 x89 x90 x91 x92 x93 x94 x95 x96 x97 x98 x99 x100 x101 x102 x103 x104 x105 x106 x107 x108 x109 x110 x111 x112 x113 x114 x115 x116 x117 x118 x119 x120 x121 x122 x123 x124 x125 x126 x127 x128 x129 x130 x131 x132 x133 x134 x135 x136 x137 x138 x139 x140 x141 x142 x143 x144 x145 x146 x147 x148 x149 x150 x151 x152 x153 x154 x155 x156 x157 x158 x159 x160 x161 x162 x163 x164 x165 x166 x167 x168 x169 x170 x171 x172 x173 x174 x175 x176 x177 x178 x179 x180 x181 x182 x183 x184 x185 x186 x187 x188 x189 x190 x191 x192 x193 x194 x195 x196 x197 x198 x199 x200 x201 x202 x203 x204 x205 x206 x207 x208 x209 x210 x211 x212 x213 x214 x215 x216 x217 x218 x219 x220 x221 x222 x223 x224 x225 x226 x227 x228 x229 x230 x231 x232 x233 x234 x235 x236 x237 x238 x239 x240 x241 x242 x243 x244 x245 x246 x247 x248 x249 x250 x251 x252 x253 x254 x255 x256 x257 x258 x259 x260 x261 x262 x263 x264 x265 x266 g ws hbl hb
      have HBG := Lib.hid hbl
      have HBW := Lib.hid hb
      have HZS0 := Lib.hid (show Below Z.heap.size Z ws from HYZ.out.trans (hb.mono HYZ.out.size))
      have HL8 := Lib.hid (HF8.out nb)
      have HT8 := Lib.hid (HFT.out nb)
      have HLM := Lib.hid (sha_len m)
      clear hbl hb HF0 HF8 HFT HFS HPD HPB HKB HPN hnbl hkp hkp2 hgpl hgkl HYB
      generalize F nb = H at *
      have zf := zero_sum
      have zs1 : zSum.size = 32 := by rfl
      have zs2 : ¬ zSum = #[] := by intro h; have := congrArg Array.size h; rw [zs1] at this; cases this
      go_wp2_with fail
      obtain ⟨Y4, hY4⟩ : ∃ Y4, Y4 = ws.alloc (Obj.cells zSum 28) := ⟨_, rfl⟩
      have HO := Lib.hid (show OutW Z Y4 g ws.heap.size H (sha m) 0 by
        rw [hY4]
        exact ⟨HZS0.out.alloc HZS0.out.size _, HBG.out.alloc _, by rw [outZ_zero (by rw [sha_len])]; exact Blk.new _ _ _⟩)
      rw [← hY4]
      clear zf zs1 zs2 hY4
      have hgl : g ≠ ws.heap.size := Nat.ne_of_lt HBG.out.lt
      have hzl := HZS0.out.size
      generalize ws.heap.size = O at *
      refine loop10 _ Y4 Z g O H (sha m) _ _ _ _ _ _ _ _ _ _ _ _ _ _ _ _ _ _ _ _ _ _ _ _ _ _ _ _ _ _ _ _ _ _ _ _ _ _ _ _ _ _ _ _ _ _ _ _ _ _ _ _ _ _ _ _ _ _ _ _ _ _ _ _ _ _ _ _ _ _ _ _ _ _ _ _ _ _ _ _ _ _ _ _ _ _ _ _ _ _ _ _ _ _ _ _ _ _ _ _ _ _ _ _ _ _ _ _ _ _ _ _ _ _ _ _ _ _ _ _ _ _ _ _ _ _ _ _ _ _ _ _ _ _ _ _ _ _ _ _ _ _ _ _ _ _ _ _ _ _ _ _ _ _ _ _ _ _ _ _ _ _ _ _ _ _ _ _ _ _ _ _ _ _ _ _ _ _ _ _ _ _ _ _ _ _ _ _ _ _ _ _ _ _ _ _ _ _ _ _ _ _ _ _ _ _ _ _ _ _ _ _ _ _ _ _ _ _ _ _ _ _ _ _ _ _ _ _ _ _ _ _ _ _ _ _ _ _ _ _ _ _ _ _ _ _ _ _ _ _ _ _ _ _ _ _ _ _ _ _ _ _ _ _ _ _ _ _ _ _ _ _ _ _ _ _ _ _ _ _ _ _ hgl hzl HO HL8 HT8 HSH HLM ?_
      intro y25 y267 y268 y269 y270 y271 y272 y273 y274 y275 y276 y277 y278 y279 y280 y281 y282 y283 wf hs
      have h3 := hs.hO
      rw [show (32 : Nat) = (sha m).length from (sha_len m).symm, outZ_end] at h3
      have HO3 := Lib.hid h3
      have HZS := Lib.hid (H2.out.below hs.bel H2.out.lt)
      have HBF := Lib.hid hs.bel
      have HIS := Lib.hid (show (Tryd.prog.info? 28).map (·.size) = some (vb (sha m)).size by rw [vb_size, sha_len]; kernel_rfl)
      clear h3 hs HO hgl hzl HSH HLM HL8 HT8
      go_wp2_with (first
        | (refine wpList_load_row rfl 28 (.tmp 24) rfl O rfl 28 (vb (sha m)) (0, 0) _ (by exact HO3.out) Tryd.underlying28 rfl HIS.out ?_)
        | (refine wpList_store_rowTo rfl 28 (.tmp 2) (.tmp 284) rfl rfl w.heap.size (vb (sha m)) rfl rfl 28 zSum (by exact HZS.out) HIS.out (by rw [vb_size, sha_len]; rfl) (vb_one _) ?_))
      refine bodyPost_ret (results_cell_row rfl _ _ w.heap.size 28 (vb (sha m)) (0, 0) _ rfl (setRow_heap _ _ zSum _ 28 (0, 0) HZS.out) Tryd.underlying28 rfl HIS.out) rfl ?_
      exact ⟨rfl, (HZ.out.trans (HBF.out.mono HZ.out.size)).trans ⟨rfl, rfl, rfl, by simp [World.setRow], fun i hi => setRow_other _ _ i _ (by omega)⟩⟩
end Go.Proofs.YtdbfikcpaionbaaDoor
/- ShaSums: contracts that it needs. -/
namespace Go.Proofs.YtdbfikcpaionbaaDoor
open Go.RowKit
set_option linter.unusedVariables false
set_option linter.unusedSimpArgs false
theorem eq_sum (l m : List Nat) (hl : l.length = 32) (hm : m.length = 32) (hs : ∀ c ∈ l, c < 256) (hs2 : ∀ c ∈ m, c < 256) (w : World) :
    (Op.equalIn 10000 28 (.agg (vb l)) (.agg (vb m))).run Tryd.prog w = .ok (l == m) w :=
  run_equalIn_barr Tryd.underlying28 Tryd.underlying5 (by kernel_rfl) (by kernel_rfl) l m hl hm hs hs2 w
end Go.Proofs.YtdbfikcpaionbaaDoor
/- ShaSums: the walk. -/
namespace Go.Proofs.YtdbfikcpaionbaaDoor
open Go.RowKit
set_option linter.unusedVariables false
set_option linter.unusedSimpArgs false
theorem rd_mid {w : World} {g : Nat} {l : List Nat} (h : LentAt w g l) (off n : Nat) (hn : off + n ≤ l.length) : Rd w (g + 1) (some ⟨g, off, none⟩) (byt ((l.drop off).take n)) := fun _ => ⟨_, rfl, Nat.lt_succ_self _, fun j u hu => by
  have hj : j < n := by
    rcases Nat.lt_or_ge j n with h1 | h1
    · exact h1
    · rw [List.getElem?_eq_none (by rw [byt_len, List.length_take]; omega)] at hu; cases hu
  rw [Addr.add_mid, h.cell]
  have e1 := vb_at (lent l) (off + j) (by rw [lent_len]; omega)
  rw [e1, lent_at (by omega), ← hu, byt_at (by rw [List.length_take, List.length_drop]; omega)]
  congr 3
  rw [List.getD_eq_getElem?_getD, List.getD_eq_getElem?_getD, List.getElem?_take_of_lt hj, List.getElem?_drop]⟩
/-- the pieces that the bytes are cut in -/
def cuts (gi : Nat) (l : List Nat) (k j : Nat) : List Part := [(some ⟨gi, 0, none⟩, l.length + 8, l.take k), (some ⟨gi, k, none⟩, l.length + 8 - k, (l.drop k).take (j - k)), (none, 0, []), (some ⟨gi, j, none⟩, l.length + 8 - j, l.drop j)]
theorem cuts_cat (gi : Nat) (l : List Nat) (k j : Nat) (h1 : k ≤ j) (h2 : j ≤ l.length) : cat (cuts gi l k j) 4 = l := by
  show l.take k ++ ((l.drop k).take (j - k) ++ ([] ++ (l.drop j ++ []))) = l
  rw [List.append_nil, List.nil_append]
  have : l.drop j = (l.drop k).drop (j - k) := by rw [List.drop_drop]; congr 1; omega
  rw [this, List.take_append_drop, List.take_append_drop]
def ArrAt (w : World) (u : Value) (base : Nat) (ps : List Part) : Prop := ∃ g, u = .slice (some ⟨g, 0, none⟩) ps.length ps.length ∧ base ≤ g ∧ Blk w g 24 (ps.map pv).toArray
theorem ArrAt.next {w w' : World} {u : Value} {base : Nat} {ps : List Part} (h : ArrAt w u base ps) (hb : Below w.heap.size w w') : ArrAt w' u base ps := by
  obtain ⟨g, e, hg, hh⟩ := h
  exact ⟨g, e, hg, hh.below hb hh.lt⟩
theorem ArrAt.of {w : World} {u : Value} {base : Nat} {ps : List Part} (h : ArrAt w u base ps) (m : List Nat) (hm : cat ps ps.length = m) (hml : ∀ c ∈ m, c < 256) (hr : ∀ p ∈ ps, Rd w w.heap.size p.1 (byt p.2.2)) (hlen : m.length ≤ 10000) (hn2 : ps.length ≤ 1000) (hR : RoundsAt w) :
    Calls Tryd.prog 35 #[u] w fun e w' => e = .returned (.agg (vb (sha m))) ∧ Below w.heap.size w w' := by
  obtain ⟨g, rfl, hg, hh⟩ := h
  refine of_c g ps.length ps.length ps m w hm hml rfl (fun k hk => ?_) hh.lt hr hlen hn2 (Nat.le_refl _) hR.1 hR.2
  rw [hh.cell k, List.getElem?_toArray, List.getElem?_map, List.getElem?_eq_getElem hk]
  rfl
theorem sliceInfo : (Tryd.prog.info? 24).map (fun i => (i.zero, i.size, i.bytes)) = some (some (.slice none 0 0), 1, 24) := by kernel_rfl
theorem run_build_parts (w : World) (ps : List Part) {o : Oper} {a : Act} (xs : Array (Nat × Operand)) (ho : o.op = .buildSlice 75 ps.length xs)
    (hx : (xs.map fun (p : Nat × Operand) => (p.1, a.eval p.2)).toList = (((ps.map pv).zipIdx 0).map fun x => (x.2, x.1))) (hlen : ps.length ≤ 1000) (hpos : 0 < ps.length) :
    (execOp a.eval o).run Tryd.prog w = .ok (.value (.slice (some ⟨w.heap.size, 0, none⟩) ps.length ps.length)) (w.alloc (.cells (ps.map pv).toArray 24)) := by
  obtain ⟨i0, hi, hz0, hz1, hz2⟩ := info_parts sliceInfo
  have h1 := run_buildSlice (P := Tryd.prog) w 75 24 ps.length (xs.map fun (p : Nat × Operand) => (p.1, a.eval p.2)) (ps.map pv).toArray i0 _ Tryd.underlying75 hi hz0 (by rw [hz1]; omega) (by rw [hz1]; omega) (by
    rw [hz1]
    refine (congrArg _ hx).trans ?_
    exact (Great.fill_flat (ps.map pv) _ (fun v hv => by
      obtain ⟨p, _, rfl⟩ := List.mem_map.1 hv
      rfl) (by simp)))
  unfold execOp
  simp only [ho, Sem.run_bind, h1, Result.andThen_ok]
  rfl
theorem run_build1 (w : World) (p : Part) {o : Oper} {a : Act} (x : Operand) (ho : o.op = .buildSlice 75 1 #[(0, x)]) (hx : a.eval x = pv p) :
    (execOp a.eval o).run Tryd.prog w = .ok (.value (.slice (some ⟨w.heap.size, 0, none⟩) 1 1)) (w.alloc (.cells ([p].map pv).toArray 24)) :=
  run_build_parts w [p] #[(0, x)] ho (by simp [hx]) (by simp) (by simp)
theorem run_build4 (w : World) (p0 p1 p2 p3 : Part) {o : Oper} {a : Act} (x0 x1 x2 x3 : Operand) (ho : o.op = .buildSlice 75 4 #[(0, x0), (1, x1), (2, x2), (3, x3)]) (h0 : a.eval x0 = pv p0) (h1 : a.eval x1 = pv p1) (h2 : a.eval x2 = pv p2) (h3 : a.eval x3 = pv p3) :
    (execOp a.eval o).run Tryd.prog w = .ok (.value (.slice (some ⟨w.heap.size, 0, none⟩) 4 4)) (w.alloc (.cells ([p0, p1, p2, p3].map pv).toArray 24)) :=
  run_build_parts w [p0, p1, p2, p3] #[(0, x0), (1, x1), (2, x2), (3, x3)] ho (by simp [h0, h1, h2, h3]) (by simp) (by simp)
end Go.Proofs.YtdbfikcpaionbaaDoor
/- ShaSums: the walk. -/
namespace Go.Proofs.YtdbfikcpaionbaaDoor
open Go.RowKit
set_option linter.unusedVariables false
set_option linter.unusedSimpArgs false
theorem rangeAt_blk {w : World} {g : Nat} {T : TypeId} {cs : Array Value} (h : Blk w g T cs) : w.rangeAt g 0 cs.toList := fun i u hu => by
  rw [Nat.zero_add, h.cell i]
  simpa using hu
end Go.Proofs.YtdbfikcpaionbaaDoor
