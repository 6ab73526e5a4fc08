/- Contract: the document's fingerprint: the rounds. -/
import Derived.Test.YthlmlmkabjppeaaDoorRl6
import Derived.StillTailTactics
namespace Go.Proofs.YthlmlmkabjppeaaDoor
open Go.RowKit
set_option linter.unusedVariables false
set_option linter.unusedSimpArgs false
set_option maxRecDepth 1000000 in
set_option maxHeartbeats 40000000 in
theorem loop8 (Q : Exit → Act → World → Prop) (wq : World) (gk k8 : Nat) (ad8 : Addr) (S H L : List Nat) (R : Nat → List Nat) (c0 c1 c2 c3 c4 c6 c8 c9 c10 c11 c21 c22 c23 c24 c25 c26 c27 c28 c29 c30 c31 c32 c33 c34 c35 c36 c37 c38 c39 c40 c41 c42 c43 c44 c45 c46 c47 c48 c49 c50 c51 c52 c53 c54 c55 c56 c57 c58 c59 c60 c61 c62 c63 c64 c65 c66 c67 c68 c69 c70 c71 c72 c73 c74 c75 c76 c77 c78 c79 c80 c81 c82 c83 c84 c85 c86 c87 c88 c89 c90 c91 c92 c93 c94 c95 c96 c97 c98 c99 c100 c101 c102 c103 c104 c105 c106 c107 c108 c109 c110 c111 c112 c113 c114 c115 c116 c117 c118 c119 c120 c121 c122 c123 c124 c125 c126 c127 c128 c129 c130 c131 c132 c133 c134 c135 c136 c137 c138 c139 c140 c141 c142 c143 c144 c145 c146 c147 c148 c149 c150 c151 c152 c153 c154 c155 c156 c157 c158 c159 c160 c161 c162 c163 c164 c165 c166 c167 c168 c169 c170 c171 c172 c173 c174 c175 c176 c177 c178 c179 c180 c181 c182 c183 c184 c185 c186 c187 c188 c189 c190 c191 c192 c193 c194 c195 c196 c197 c198 c199 c200 c201 c202 c203 c204 c205 c206 c207 c208 c209 c210 c211 c212 c213 c214 c215 c216 c217 c218 c219 c220 c221 c222 c223 c224 c225 c226 c227 c228 c229 c230 c231 c232 c233 c234 c235 c236 c237 c238 c239 c240 c241 c242 c243 c244 c245 c246 c247 c248 c249 c250 c251 c252 c253 c254 c255 c256 c257 c258 c259 c260 c261 c262 c263 c264 c265 c266 c267 c268 c269 c270 c271 c272 c273 c274 c275 c276 c277 c278 c279 c280 c281 c282 c283 c284 : Value)
    (HKB : Hid (Blk wq gk 69 (vw kc))) (HWC : Hid (∀ i, i < 64 → wq.cell? (ad8.add i) = some (.int .u32 (S.getD i 0 : Nat))))
    (hk8 : 64 ≤ k8) (HWL : Hid (∀ i, S.getD i 0 < 4294967296)) (HRL : Hid (∀ k, (R k).length = 8)) (HRT : Hid (∀ k, ∀ c ∈ R k, c < 4294967296)) (HR0 : Hid (R 0 = H)) (HR6 : Hid (R 64 = L))
    (HRS : Hid (∀ k, R (k + 1) = rnd (kc.getD k 0) (S.getD k 0) (R k)))
    (hexit : ∀ (u20 u21 u22 u23 u160 u161 u162 u163 u164 u165 u166 u167 u168 u169 u170 u171 u172 u173 u174 u175 u176 u177 u178 u179 u180 u181 u182 u183 u184 u185 u186 u187 u188 u189 u190 u191 u192 u193 u194 u195 u196 u197 u198 u199 u200 u201 u202 u203 u204 u205 u206 u207 u208 u209 u210 u211 u212 u213 u214 u215 u216 u217 u218 u219 u220 u221 u222 u223 u224 u225 : Value) (n : Nat), Q (.exit 8) ⟨(c0 :: c1 :: c2 :: c3 :: c4 :: (.slice (some ⟨gk, 0, none⟩) 64 64) :: c6 :: (.slice (some ad8) 64 k8) :: c8 :: c9 :: c10 :: c11 :: (.int .u32 (L.getD 0 0 : Nat)) :: (.int .u32 (L.getD 1 0 : Nat)) :: (.int .u32 (L.getD 2 0 : Nat)) :: (.int .u32 (L.getD 3 0 : Nat)) :: (.int .u32 (L.getD 4 0 : Nat)) :: (.int .u32 (L.getD 5 0 : Nat)) :: (.int .u32 (L.getD 6 0 : Nat)) :: (.int .u32 (L.getD 7 0 : Nat)) :: u20 :: u21 :: u22 :: u23 :: c24 :: c25 :: c26 :: c27 :: c28 :: c29 :: c30 :: c31 :: c32 :: c33 :: c34 :: c35 :: c36 :: c37 :: c38 :: c39 :: c40 :: c41 :: c42 :: c43 :: c44 :: c45 :: c46 :: c47 :: c48 :: c49 :: c50 :: c51 :: c52 :: c53 :: c54 :: c55 :: c56 :: c57 :: c58 :: c59 :: c60 :: c61 :: c62 :: c63 :: c64 :: c65 :: c66 :: c67 :: c68 :: c69 :: c70 :: c71 :: c72 :: c73 :: c74 :: c75 :: c76 :: c77 :: c78 :: c79 :: c80 :: c81 :: c82 :: c83 :: c84 :: c85 :: c86 :: c87 :: c88 :: c89 :: c90 :: c91 :: c92 :: c93 :: c94 :: c95 :: c96 :: c97 :: c98 :: c99 :: c100 :: c101 :: c102 :: c103 :: c104 :: c105 :: c106 :: c107 :: c108 :: c109 :: c110 :: c111 :: c112 :: c113 :: c114 :: c115 :: c116 :: c117 :: c118 :: c119 :: c120 :: c121 :: c122 :: c123 :: c124 :: c125 :: c126 :: c127 :: c128 :: c129 :: c130 :: c131 :: c132 :: c133 :: c134 :: c135 :: c136 :: c137 :: c138 :: c139 :: c140 :: c141 :: c142 :: c143 :: c144 :: c145 :: c146 :: c147 :: c148 :: c149 :: c150 :: c151 :: c152 :: c153 :: c154 :: c155 :: c156 :: c157 :: c158 :: c159 :: u160 :: u161 :: u162 :: u163 :: u164 :: u165 :: u166 :: u167 :: u168 :: u169 :: u170 :: u171 :: u172 :: u173 :: u174 :: u175 :: u176 :: u177 :: u178 :: u179 :: u180 :: u181 :: u182 :: u183 :: u184 :: u185 :: u186 :: u187 :: u188 :: u189 :: u190 :: u191 :: u192 :: u193 :: u194 :: u195 :: u196 :: u197 :: u198 :: u199 :: u200 :: u201 :: u202 :: u203 :: u204 :: u205 :: u206 :: u207 :: u208 :: u209 :: u210 :: u211 :: u212 :: u213 :: u214 :: u215 :: u216 :: u217 :: u218 :: u219 :: u220 :: u221 :: u222 :: u223 :: u224 :: u225 :: c226 :: c227 :: c228 :: c229 :: c230 :: c231 :: c232 :: c233 :: c234 :: c235 :: c236 :: c237 :: c238 :: c239 :: c240 :: c241 :: c242 :: c243 :: c244 :: c245 :: c246 :: c247 :: c248 :: c249 :: c250 :: c251 :: c252 :: c253 :: c254 :: c255 :: c256 :: c257 :: c258 :: c259 :: c260 :: c261 :: c262 :: c263 :: c264 :: c265 :: c266 :: c267 :: c268 :: c269 :: c270 :: c271 :: c272 :: c273 :: c274 :: c275 :: c276 :: c277 :: c278 :: c279 :: c280 :: c281 :: c282 :: c283 :: c284 :: []).toArray, []⟩ (wq.drewN n)) :
    Code.wp Tryd.prog (lp 8) Q ⟨(c0 :: c1 :: c2 :: c3 :: c4 :: (.slice (some ⟨gk, 0, none⟩) 64 64) :: c6 :: (.slice (some ad8) 64 k8) :: c8 :: c9 :: c10 :: c11 :: (.int .u32 (H.getD 0 0 : Nat)) :: (.int .u32 (H.getD 1 0 : Nat)) :: (.int .u32 (H.getD 2 0 : Nat)) :: (.int .u32 (H.getD 3 0 : Nat)) :: (.int .u32 (H.getD 4 0 : Nat)) :: (.int .u32 (H.getD 5 0 : Nat)) :: (.int .u32 (H.getD 6 0 : Nat)) :: (.int .u32 (H.getD 7 0 : Nat)) :: (.int .i64 0) :: c21 :: c22 :: c23 :: c24 :: c25 :: c26 :: c27 :: c28 :: c29 :: c30 :: c31 :: c32 :: c33 :: c34 :: c35 :: c36 :: c37 :: c38 :: c39 :: c40 :: c41 :: c42 :: c43 :: c44 :: c45 :: c46 :: c47 :: c48 :: c49 :: c50 :: c51 :: c52 :: c53 :: c54 :: c55 :: c56 :: c57 :: c58 :: c59 :: c60 :: c61 :: c62 :: c63 :: c64 :: c65 :: c66 :: c67 :: c68 :: c69 :: c70 :: c71 :: c72 :: c73 :: c74 :: c75 :: c76 :: c77 :: c78 :: c79 :: c80 :: c81 :: c82 :: c83 :: c84 :: c85 :: c86 :: c87 :: c88 :: c89 :: c90 :: c91 :: c92 :: c93 :: c94 :: c95 :: c96 :: c97 :: c98 :: c99 :: c100 :: c101 :: c102 :: c103 :: c104 :: c105 :: c106 :: c107 :: c108 :: c109 :: c110 :: c111 :: c112 :: c113 :: c114 :: c115 :: c116 :: c117 :: c118 :: c119 :: c120 :: c121 :: c122 :: c123 :: c124 :: c125 :: c126 :: c127 :: c128 :: c129 :: c130 :: c131 :: c132 :: c133 :: c134 :: c135 :: c136 :: c137 :: c138 :: c139 :: c140 :: c141 :: c142 :: c143 :: c144 :: c145 :: c146 :: c147 :: c148 :: c149 :: c150 :: c151 :: c152 :: c153 :: c154 :: c155 :: c156 :: c157 :: c158 :: c159 :: c160 :: c161 :: c162 :: c163 :: c164 :: c165 :: c166 :: c167 :: c168 :: c169 :: c170 :: c171 :: c172 :: c173 :: c174 :: c175 :: c176 :: c177 :: c178 :: c179 :: c180 :: c181 :: c182 :: c183 :: c184 :: c185 :: c186 :: c187 :: c188 :: c189 :: c190 :: c191 :: c192 :: c193 :: c194 :: c195 :: c196 :: c197 :: c198 :: c199 :: c200 :: c201 :: c202 :: c203 :: c204 :: c205 :: c206 :: c207 :: c208 :: c209 :: c210 :: c211 :: c212 :: c213 :: c214 :: c215 :: c216 :: c217 :: c218 :: c219 :: c220 :: c221 :: c222 :: c223 :: c224 :: c225 :: c226 :: c227 :: c228 :: c229 :: c230 :: c231 :: c232 :: c233 :: c234 :: c235 :: c236 :: c237 :: c238 :: c239 :: c240 :: c241 :: c242 :: c243 :: c244 :: c245 :: c246 :: c247 :: c248 :: c249 :: c250 :: c251 :: c252 :: c253 :: c254 :: c255 :: c256 :: c257 :: c258 :: c259 :: c260 :: c261 :: c262 :: c263 :: c264 :: c265 :: c266 :: c267 :: c268 :: c269 :: c270 :: c271 :: c272 :: c273 :: c274 :: c275 :: c276 :: c277 :: c278 :: c279 :: c280 :: c281 :: c282 :: c283 :: c284 :: []).toArray, []⟩ wq := by
  conv => arg 2; whnf
  go_loopw [12, 13, 14, 15, 16, 17, 18, 19, 20] (fun z0 z1 z2 z3 z4 z5 z6 z7 z20 wr => ∃ k n : Nat, k ≤ 64 ∧ z20 = .int .i64 (k : Int) ∧ wr = wq.drewN n ∧ z0 = .int .u32 ((R k).getD 0 0 : Nat) ∧ z1 = .int .u32 ((R k).getD 1 0 : Nat) ∧ z2 = .int .u32 ((R k).getD 2 0 : Nat) ∧ z3 = .int .u32 ((R k).getD 3 0 : Nat) ∧ z4 = .int .u32 ((R k).getD 4 0 : Nat) ∧ z5 = .int .u32 ((R k).getD 5 0 : Nat) ∧ z6 = .int .u32 ((R k).getD 6 0 : Nat) ∧ z7 = .int .u32 ((R k).getD 7 0 : Nat)) (fun _ _ _ _ _ _ _ _ z20 _ => 64 - (intOf z20).toNat)
  case atStart => exact ⟨0, 0, by omega, rfl, rfl, by rw [HR0.out], by rw [HR0.out], by rw [HR0.out], by rw [HR0.out], by rw [HR0.out], by rw [HR0.out], by rw [HR0.out], by rw [HR0.out]⟩
  case round =>
    rename World => wr
    obtain ⟨k, n, hk, rfl, rfl, rfl, rfl, rfl, rfl, rfl, rfl, rfl, rfl⟩ := hrel
    by_cases hlt : k < 64
    · have hwl := HWL.out k
      have hwc : wq.cell? (ad8.add k) = some (.int .u32 (S.getD k 0 : Nat)) := HWC.out k hlt
      have hkl : kc.getD k 0 < 4294967296 := by
        rw [List.getD_eq_getElem?_getD, List.getElem?_eq_getElem (show k < kc.length from hlt)]
        exact (show ∀ c ∈ kc, c < 4294967296 by decide) _ (List.getElem_mem _)
      have hkc : wq.cell? ⟨gk, k, none⟩ = some (.int .u32 (kc.getD k 0 : Nat)) := by
        have h1 := HKB.out.cell k
        rw [vw_at _ _ hlt] at h1
        refine h1.trans ?_
        rw [List.getD_eq_getElem?_getD]
      have HST := Lib.hid (HRS.out k)
      have hvl := HRT.out k
      obtain ⟨v0, v1, v2, v3, v4, v5, v6, v7, hv⟩ := len8 (HRL.out k)
      rw [hv] at HST hvl ⊢
      clear hv
      generalize S.getD k 0 = ww at *
      generalize kc.getD k 0 = kk at *
      have l0 := hvl v0 (by simp)
      have l1 := hvl v1 (by simp)
      have l2 := hvl v2 (by simp)
      have l3 := hvl v3 (by simp)
      have l4 := hvl v4 (by simp)
      have l5 := hvl v5 (by simp)
      have l6 := hvl v6 (by simp)
      have l7 := hvl v7 (by simp)
      clear hvl
      simp only [List.getD_cons_zero, List.getD_cons_succ]
      have K6 := Lib.hid (show ∀ W, Calls Tryd.prog 44 #[.int .u32 (v4 : Nat), .int .i64 6] W fun e w' => e = .returned (.int .u32 (rotr v4 6 : Nat)) ∧ W = w' from fun W => rturn_c v4 6 W (by assumption) (by decide))
      have K11 := Lib.hid (show ∀ W, Calls Tryd.prog 44 #[.int .u32 (v4 : Nat), .int .i64 11] W fun e w' => e = .returned (.int .u32 (rotr v4 11 : Nat)) ∧ W = w' from fun W => rturn_c v4 11 W (by assumption) (by decide))
      have K25 := Lib.hid (show ∀ W, Calls Tryd.prog 44 #[.int .u32 (v4 : Nat), .int .i64 25] W fun e w' => e = .returned (.int .u32 (rotr v4 25 : Nat)) ∧ W = w' from fun W => rturn_c v4 25 W (by assumption) (by decide))
      have K2 := Lib.hid (show ∀ W, Calls Tryd.prog 44 #[.int .u32 (v0 : Nat), .int .i64 2] W fun e w' => e = .returned (.int .u32 (rotr v0 2 : Nat)) ∧ W = w' from fun W => rturn_c v0 2 W (by assumption) (by decide))
      have K13 := Lib.hid (show ∀ W, Calls Tryd.prog 44 #[.int .u32 (v0 : Nat), .int .i64 13] W fun e w' => e = .returned (.int .u32 (rotr v0 13 : Nat)) ∧ W = w' from fun W => rturn_c v0 13 W (by assumption) (by decide))
      have K22 := Lib.hid (show ∀ W, Calls Tryd.prog 44 #[.int .u32 (v0 : Nat), .int .i64 22] W fun e w' => e = .returned (.int .u32 (rotr v0 22 : Nat)) ∧ W = w' from fun W => rturn_c v0 22 W (by assumption) (by decide))
      have e1 : bits BinOp.xor .u32 ((rotr v4 6 : Nat) : Int) ((rotr v4 11 : Nat) : Int) = ((rotr v4 6 ^^^ rotr v4 11 : Nat) : Int) := u32_xor_nat _ _ (rotr_lt l4 (by decide)) (rotr_lt l4 (by decide))
      have e2 : bits BinOp.xor .u32 ((rotr v4 6 ^^^ rotr v4 11 : Nat) : Int) ((rotr v4 25 : Nat) : Int) = ((b1 v4 : Nat) : Int) := u32_xor_nat _ _ (xor_w (rotr_lt l4 (by decide)) (rotr_lt l4 (by decide))) (rotr_lt l4 (by decide))
      have e3 : bits BinOp.xor .u32 ((rotr v0 2 : Nat) : Int) ((rotr v0 13 : Nat) : Int) = ((rotr v0 2 ^^^ rotr v0 13 : Nat) : Int) := u32_xor_nat _ _ (rotr_lt l0 (by decide)) (rotr_lt l0 (by decide))
      have e4 : bits BinOp.xor .u32 ((rotr v0 2 ^^^ rotr v0 13 : Nat) : Int) ((rotr v0 22 : Nat) : Int) = ((b0 v0 : Nat) : Int) := u32_xor_nat _ _ (xor_w (rotr_lt l0 (by decide)) (rotr_lt l0 (by decide))) (rotr_lt l0 (by decide))
      have nx : (4294967295 : Int) - (v4 : Int) = ((4294967295 - v4 : Nat) : Int) := by omega
      have f1 := u32_and_nat v4 v5 l4 l5
      have f2 := u32_and_nat (4294967295 - v4) v6 (by omega) l6
      have f3 : bits BinOp.xor .u32 ((v4 &&& v5 : Nat) : Int) (((4294967295 - v4) &&& v6 : Nat) : Int) = ((chf v4 v5 v6 : Nat) : Int) := u32_xor_nat _ _ (and_w l4) (and_w (by omega))
      have f4 := u32_and_nat v0 v1 l0 l1
      have f5 := u32_and_nat v0 v2 l0 l2
      have f6 := u32_and_nat v1 v2 l1 l2
      have f7 : bits BinOp.xor .u32 ((v0 &&& v1 : Nat) : Int) ((v0 &&& v2 : Nat) : Int) = (((v0 &&& v1) ^^^ (v0 &&& v2) : Nat) : Int) := u32_xor_nat _ _ (and_w l0) (and_w l0)
      have f8 : bits BinOp.xor .u32 (((v0 &&& v1) ^^^ (v0 &&& v2) : Nat) : Int) ((v1 &&& v2 : Nat) : Int) = ((maj v0 v1 v2 : Nat) : Int) := u32_xor_nat _ _ (xor_w (and_w l0) (and_w l0)) (and_w l1)
      have g1 := wrap32_add v7 (b1 v4)
      have g2 := wrap32_add (ad v7 (b1 v4)) (chf v4 v5 v6)
      have g3 := wrap32_add (ad (ad v7 (b1 v4)) (chf v4 v5 v6)) kk
      have g4 := wrap32_add (ad (ad (ad v7 (b1 v4)) (chf v4 v5 v6)) kk) ww
      have g5 := wrap32_add (b0 v0) (maj v0 v1 v2)
      have g6 := wrap32_add v3 (ad (ad (ad (ad v7 (b1 v4)) (chf v4 v5 v6)) kk) ww)
      have g7 := wrap32_add (ad (ad (ad (ad v7 (b1 v4)) (chf v4 v5 v6)) kk) ww) (ad (b0 v0) (maj v0 v1 v2))
      have hrnd : rnd kk ww [v0, v1, v2, v3, v4, v5, v6, v7] = [ad (ad (ad (ad (ad v7 (b1 v4)) (chf v4 v5 v6)) kk) ww) (ad (b0 v0) (maj v0 v1 v2)), v0, v1, v2, ad v3 (ad (ad (ad (ad v7 (b1 v4)) (chf v4 v5 v6)) kk) ww), v4, v5, v6] := rfl
      rw [hrnd] at HST
      clear hrnd
      generalize ad (ad (ad (ad (ad v7 (b1 v4)) (chf v4 v5 v6)) kk) ww) (ad (b0 v0) (maj v0 v1 v2)) = n0 at *
      generalize ad v3 (ad (ad (ad (ad v7 (b1 v4)) (chf v4 v5 v6)) kk) ww) = n4 at *
      generalize ad (ad (ad (ad v7 (b1 v4)) (chf v4 v5 v6)) kk) ww = one at *
      generalize ad (b0 v0) (maj v0 v1 v2) = two at *
      generalize ad (ad (ad v7 (b1 v4)) (chf v4 v5 v6)) kk = o3 at *
      generalize ad (ad v7 (b1 v4)) (chf v4 v5 v6) = o2 at *
      generalize ad v7 (b1 v4) = o1 at *
      generalize maj v0 v1 v2 = mj at *
      generalize chf v4 v5 v6 = cf at *
      generalize b1 v4 = bE at *
      generalize b0 v0 = bA at *
      generalize (4294967295 - v4) &&& v6 = q2 at *
      generalize 4294967295 - v4 = q1 at *
      generalize (v0 &&& v1) ^^^ (v0 &&& v2) = q6 at *
      generalize v0 &&& v1 = q3 at *
      generalize v0 &&& v2 = q4 at *
      generalize v1 &&& v2 = q5 at *
      generalize v4 &&& v5 = q0 at *
      generalize rotr v4 6 ^^^ rotr v4 11 = r0 at *
      generalize rotr v0 2 ^^^ rotr v0 13 = r1 at *
      generalize rotr v4 6 = r2 at *
      generalize rotr v4 11 = r3 at *
      generalize rotr v4 25 = r4 at *
      generalize rotr v0 2 = r5 at *
      generalize rotr v0 13 = r6 at *
      generalize rotr v0 22 = r7 at *
      go_wp2_with (first
        | (go_at_call 44; (with_reducible refine (K6.out _).mono ?_); rintro e wn ⟨rfl, rfl⟩)
        | (go_at_call 44; (with_reducible refine (K11.out _).mono ?_); rintro e wn ⟨rfl, rfl⟩)
        | (go_at_call 44; (with_reducible refine (K25.out _).mono ?_); rintro e wn ⟨rfl, rfl⟩))
      refine wp_region_quiet_lit (by kernel_rfl) (by kernel_rfl) ?_
      repeat (go_big_quiet_step (fail))
      refine wpQuiet_nil ?_
      rintro _ ⟨n6, rfl⟩
      go_wp2_with (first
        | (go_at_call 44; (with_reducible refine (K2.out _).mono ?_); rintro e wn ⟨rfl, rfl⟩)
        | (go_at_call 44; (with_reducible refine (K13.out _).mono ?_); rintro e wn ⟨rfl, rfl⟩)
        | (go_at_call 44; (with_reducible refine (K22.out _).mono ?_); rintro e wn ⟨rfl, rfl⟩))
      refine ⟨⟨k + 1, n + n6, by omega, by congr 1, ?_, ?_, ?_, ?_, ?_, ?_, ?_, ?_, ?_⟩, ?_⟩
      · first | rfl | exact World.drewN_drewN _ _ _
      all_goals first
        | (rw [HST.out]; simp only [List.getD_cons_zero, List.getD_cons_succ])
        | (simp only [intOf]; omega)
    · obtain rfl : k = 64 := by omega
      rw [HR6.out]
      go_wp2_with fail
      exact hexit _ _ _ _ _ _ _ _ _ _ _ _ _ _ _ _ _ _ _ _ _ _ _ _ _ _ _ _ _ _ _ _ _ _ _ _ _ _ _ _ _ _ _ _ _ _ _ _ _ _ _ _ _ _ _ _ _ _ _ _ _ _ _ _ _ _ _ _ _ _ _
end Go.Proofs.YthlmlmkabjppeaaDoor
